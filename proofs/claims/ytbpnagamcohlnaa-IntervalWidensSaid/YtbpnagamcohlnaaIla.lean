/- The walks of IntervalChecks, IntervalJoins, IntervalApplies, IntervalLeast. -/
import Derived.Test.YtbpnagamcohlnaaIz
namespace Go.Proofs.Ytbpnagamcohlnaa
open Go.RowKit
set_option linter.unusedVariables false


theorem con_at (nm : Nat) (a b n : Int) (r : Bool) (w : World) (h : conB a b n = r) (hc : Calls Try.prog nm #[.agg #[.int .i64 a, .int .i64 b], .int .u32 n] w fun x w' => x = .returned (.bool (conB a b n)) ∧ Ext w w') : Calls Try.prog nm #[.agg #[.int .i64 a, .int .i64 b], .int .u32 n] w fun x w' => x = .returned (.bool r) ∧ Ext w w' := by rw [← h]; exact hc
theorem chk_at (nm : Nat) (a b k : Int) (w : World) (h : chk a b = k) (hc : Calls Try.prog nm #[.agg #[.int .i64 a, .int .i64 b]] w fun x w' => x = .returned (.int .i64 (chk a b)) ∧ Ext w w') : Calls Try.prog nm #[.agg #[.int .i64 a, .int .i64 b]] w fun x w' => x = .returned (.int .i64 k) ∧ Ext w w' := by rw [← h]; exact hc
set_option maxHeartbeats 4000000 in
theorem IntervalChecks_any (a b n : Int) (ba0 : -9223372036854775808 ≤ a) (ba1 : a ≤ 9223372036854775807) (bb0 : -9223372036854775808 ≤ b) (bb1 : b ≤ 9223372036854775807) (n0 : 0 ≤ n) (n1 : n ≤ 4294967295) (w : World) : Calls Try.prog 6 #[.agg #[.int .i64 a, .int .i64 b], .int .u32 n] w fun x w' => x = .returned (.bool true) ∧ Ext w w' := by
  obtain ⟨k, hk⟩ : ∃ k, chk a b = k := ⟨_, rfl⟩
  obtain ⟨r, hr⟩ : ∃ r, conB a b n = r := ⟨_, rfl⟩
  have hk := hidden hk
  have hr := hidden hr
  have z1 : (k == k) = true := by simp
  have z2 : (r == r) = true := by simp
  have Bx : Blk (w.alloc (.cells #[.int .i64 a, .int .i64 b] 23)) (w.heap.size) 23 [.int .i64 a, .int .i64 b] := by
    have := Blk.new (w) [.int .i64 a, .int .i64 b] 23
    exact this
  have E0 : Ext w (w.alloc (.cells #[.int .i64 a, .int .i64 b] 23)) := (Ext.refl w).alloc _
  go_enter Try.func6, Try.ntmps6
  go_upto_region 1 with fail
  obtain ⟨V0, hV⟩ : ∃ V, w.alloc (.cells #[.int .i64 a, .int .i64 b] 23) = V := ⟨_, rfl⟩
  rw [hV] at Bx E0 ⊢
  clear hV
  have hx0 := Bx.cell 0 _ rfl
  have hx1 := Bx.cell 1 _ rfl
  go_region_held3 (fun w' => w'.cell? ⟨w.heap.size, 0, none⟩ = some (.int .i64 a) ∧ w'.cell? ⟨w.heap.size, 1, none⟩ = some (.int .i64 b)) (go_keep)
    (first | (go_at_call 12; refine (awake_any _).mono ?_; rintro e w5 ⟨rfl, g5⟩; have gX : Ext V0 w5 := (by first | exact Ext.trans gX g5 | exact (Ext.trans gX g5.past) | exact g5.past_drew | exact g5.past_drew.past | exact g5); have j0 : w5.cell? ⟨w.heap.size, 0, none⟩ = some (.int .i64 a) := gX.cell hx0; have j1 : w5.cell? ⟨w.heap.size, 1, none⟩ = some (.int .i64 b) := gX.cell hx1) | (go_at_call 16; refine (chk_at _ _ _ _ _ hk.out (check_any _ _ _)).mono ?_; rintro e w5 ⟨rfl, g5⟩; have gX : Ext V0 w5 := (by first | exact Ext.trans gX g5 | exact (Ext.trans gX g5.past) | exact g5.past_drew | exact g5.past_drew.past | exact g5); have j0 : w5.cell? ⟨w.heap.size, 0, none⟩ = some (.int .i64 a) := gX.cell hx0; have j1 : w5.cell? ⟨w.heap.size, 1, none⟩ = some (.int .i64 b) := gX.cell hx1) | (go_at_call 18; refine (chk_at _ _ _ _ _ hk.out (rcheck_any _ _ _)).mono ?_; rintro e w5 ⟨rfl, g5⟩; have gX : Ext V0 w5 := (by first | exact Ext.trans gX g5 | exact (Ext.trans gX g5.past) | exact g5.past_drew | exact g5.past_drew.past | exact g5); have j0 : w5.cell? ⟨w.heap.size, 0, none⟩ = some (.int .i64 a) := gX.cell hx0; have j1 : w5.cell? ⟨w.heap.size, 1, none⟩ = some (.int .i64 b) := gX.cell hx1) | (go_at_call 19; refine (full_any _).mono ?_; rintro e w5 ⟨rfl, g5⟩; have gX : Ext V0 w5 := (by first | exact Ext.trans gX g5 | exact (Ext.trans gX g5.past) | exact g5.past_drew | exact g5.past_drew.past | exact g5); have j0 : w5.cell? ⟨w.heap.size, 0, none⟩ = some (.int .i64 a) := gX.cell hx0; have j1 : w5.cell? ⟨w.heap.size, 1, none⟩ = some (.int .i64 b) := gX.cell hx1) | (go_at_call 20; refine (rfull_any _).mono ?_; rintro e w5 ⟨rfl, g5⟩; have gX : Ext V0 w5 := (by first | exact Ext.trans gX g5 | exact (Ext.trans gX g5.past) | exact g5.past_drew | exact g5.past_drew.past | exact g5); have j0 : w5.cell? ⟨w.heap.size, 0, none⟩ = some (.int .i64 a) := gX.cell hx0; have j1 : w5.cell? ⟨w.heap.size, 1, none⟩ = some (.int .i64 b) := gX.cell hx1) | (go_at_call 21; refine (exact_any _ n0 n1 _).mono ?_; rintro e w5 ⟨rfl, g5⟩; have gX : Ext V0 w5 := (by first | exact Ext.trans gX g5 | exact (Ext.trans gX g5.past) | exact g5.past_drew | exact g5.past_drew.past | exact g5); have j0 : w5.cell? ⟨w.heap.size, 0, none⟩ = some (.int .i64 a) := gX.cell hx0; have j1 : w5.cell? ⟨w.heap.size, 1, none⟩ = some (.int .i64 b) := gX.cell hx1) | (go_at_call 22; refine (rexact_any _ n0 n1 _).mono ?_; rintro e w5 ⟨rfl, g5⟩; have gX : Ext V0 w5 := (by first | exact Ext.trans gX g5 | exact (Ext.trans gX g5.past) | exact g5.past_drew | exact g5.past_drew.past | exact g5); have j0 : w5.cell? ⟨w.heap.size, 0, none⟩ = some (.int .i64 a) := gX.cell hx0; have j1 : w5.cell? ⟨w.heap.size, 1, none⟩ = some (.int .i64 b) := gX.cell hx1) | (go_at_call 23; refine (con_at _ _ _ _ _ _ hr.out (contains_any _ _ _ n0 n1 _)).mono ?_; rintro e w5 ⟨rfl, g5⟩; have gX : Ext V0 w5 := (by first | exact Ext.trans gX g5 | exact (Ext.trans gX g5.past) | exact g5.past_drew | exact g5.past_drew.past | exact g5); have j0 : w5.cell? ⟨w.heap.size, 0, none⟩ = some (.int .i64 a) := gX.cell hx0; have j1 : w5.cell? ⟨w.heap.size, 1, none⟩ = some (.int .i64 b) := gX.cell hx1) | (go_at_call 24; refine (con_at _ _ _ _ _ _ hr.out (rcontains_any _ _ _ n0 n1 _)).mono ?_; rintro e w5 ⟨rfl, g5⟩; have gX : Ext V0 w5 := (by first | exact Ext.trans gX g5 | exact (Ext.trans gX g5.past) | exact g5.past_drew | exact g5.past_drew.past | exact g5); have j0 : w5.cell? ⟨w.heap.size, 0, none⟩ = some (.int .i64 a) := gX.cell hx0; have j1 : w5.cell? ⟨w.heap.size, 1, none⟩ = some (.int .i64 b) := gX.cell hx1))
  go_wp2_with fail
  go_ret
  exact ⟨rfl, E0.trans gX⟩
theorem iv_at (nm : Nat) (xs : Array Value) (l h l' h' : Int) (w : World) (hl : l = l') (hh : h = h') (hc : Calls Try.prog nm xs w fun x w' => x = .returned (.agg #[.int .i64 l, .int .i64 h]) ∧ Ext w w') : Calls Try.prog nm xs w fun x w' => x = .returned (.agg #[.int .i64 l', .int .i64 h']) ∧ Ext w w' := by rw [← hl, ← hh]; exact hc
theorem bool_at (nm : Nat) (xs : Array Value) (p q : Bool) (w : World) (h : p = q) (hc : Calls Try.prog nm xs w fun x w' => x = .returned (.bool p) ∧ Ext w w') : Calls Try.prog nm xs w fun x w' => x = .returned (.bool q) ∧ Ext w w' := by rw [← h]; exact hc
set_option maxHeartbeats 4000000 in
theorem IntervalJoins_any (a b c d : Int) (ba0 : -9223372036854775808 ≤ a) (ba1 : a ≤ 9223372036854775807) (bb0 : -9223372036854775808 ≤ b) (bb1 : b ≤ 9223372036854775807) (bc0 : -9223372036854775808 ≤ c) (bc1 : c ≤ 9223372036854775807) (bd0 : -9223372036854775808 ≤ d) (bd1 : d ≤ 9223372036854775807) (w : World) : Calls Try.prog 8 #[.agg #[.int .i64 a, .int .i64 b], .agg #[.int .i64 c, .int .i64 d]] w fun x w' => x = .returned (.bool true) ∧ Ext w w' := by
  obtain ⟨r, er⟩ : ∃ z, witB a b c d = z := ⟨_, rfl⟩
  have er := hidden er
  obtain ⟨jl, ejl⟩ : ∃ z, joinL a b c d = z := ⟨_, rfl⟩
  have ejl := hidden ejl
  obtain ⟨jh, ejh⟩ : ∃ z, joinH a b c d = z := ⟨_, rfl⟩
  have ejh := hidden ejh
  obtain ⟨wl, ewl⟩ : ∃ z, widL a b c d = z := ⟨_, rfl⟩
  have ewl := hidden ewl
  obtain ⟨wh, ewh⟩ : ∃ z, widH a b c d = z := ⟨_, rfl⟩
  have ewh := hidden ewh
  have z2 : (r == r) = true := by simp
  have Bx : Blk ((w.alloc (.cells #[.int .i64 a, .int .i64 b] 23)).alloc (.cells #[.int .i64 c, .int .i64 d] 23)) (w.heap.size) 23 [.int .i64 a, .int .i64 b] := by
    have := Blk.new (w) [.int .i64 a, .int .i64 b] 23
    exact (this).alloc _
  have By : Blk ((w.alloc (.cells #[.int .i64 a, .int .i64 b] 23)).alloc (.cells #[.int .i64 c, .int .i64 d] 23)) (w.heap.size + 1) 23 [.int .i64 c, .int .i64 d] := by
    have := Blk.new (w.alloc (.cells #[.int .i64 a, .int .i64 b] 23)) [.int .i64 c, .int .i64 d] 23
    rw [World.size_alloc] at this
    exact this
  have E0 : Ext w ((w.alloc (.cells #[.int .i64 a, .int .i64 b] 23)).alloc (.cells #[.int .i64 c, .int .i64 d] 23)) := ((Ext.refl w).alloc _).alloc _
  go_enter Try.func8, Try.ntmps8
  go_upto_region 1 with fail
  obtain ⟨V0, hV⟩ : ∃ V, (w.alloc (.cells #[.int .i64 a, .int .i64 b] 23)).alloc (.cells #[.int .i64 c, .int .i64 d] 23) = V := ⟨_, rfl⟩
  rw [hV] at Bx By E0 ⊢
  clear hV
  have hx0 := Bx.cell 0 _ rfl
  have hx1 := Bx.cell 1 _ rfl
  have hy0 := By.cell 0 _ rfl
  have hy1 := By.cell 1 _ rfl
  go_region_held3 (fun w' => w'.cell? ⟨w.heap.size, 0, none⟩ = some (.int .i64 a) ∧ w'.cell? ⟨w.heap.size, 1, none⟩ = some (.int .i64 b) ∧ w'.cell? ⟨w.heap.size + 1, 0, none⟩ = some (.int .i64 c) ∧ w'.cell? ⟨w.heap.size + 1, 1, none⟩ = some (.int .i64 d)) (go_keep)
    (first | (go_at_call 12; refine (awake_any _).mono ?_; rintro e w5 ⟨rfl, g5⟩; have gX : Ext V0 w5 := (by first | exact Ext.trans gX g5 | exact (Ext.trans gX g5.past) | exact g5.past_drew | exact g5.past_drew.past | exact g5); have j0 : w5.cell? ⟨w.heap.size, 0, none⟩ = some (.int .i64 a) := gX.cell hx0; have j1 : w5.cell? ⟨w.heap.size, 1, none⟩ = some (.int .i64 b) := gX.cell hx1; have j2 : w5.cell? ⟨w.heap.size + 1, 0, none⟩ = some (.int .i64 c) := gX.cell hy0; have j3 : w5.cell? ⟨w.heap.size + 1, 1, none⟩ = some (.int .i64 d) := gX.cell hy1) | (go_at_call 15; refine (bool_at _ _ _ _ _ er.out (within_any _ _ _ _ _)).mono ?_; rintro e w5 ⟨rfl, g5⟩; have gX : Ext V0 w5 := (by first | exact Ext.trans gX g5 | exact (Ext.trans gX g5.past) | exact g5.past_drew | exact g5.past_drew.past | exact g5); have j0 : w5.cell? ⟨w.heap.size, 0, none⟩ = some (.int .i64 a) := gX.cell hx0; have j1 : w5.cell? ⟨w.heap.size, 1, none⟩ = some (.int .i64 b) := gX.cell hx1; have j2 : w5.cell? ⟨w.heap.size + 1, 0, none⟩ = some (.int .i64 c) := gX.cell hy0; have j3 : w5.cell? ⟨w.heap.size + 1, 1, none⟩ = some (.int .i64 d) := gX.cell hy1) | (go_at_call 26; refine (bool_at _ _ _ _ _ er.out (rwithin_any _ _ _ _ _)).mono ?_; rintro e w5 ⟨rfl, g5⟩; have gX : Ext V0 w5 := (by first | exact Ext.trans gX g5 | exact (Ext.trans gX g5.past) | exact g5.past_drew | exact g5.past_drew.past | exact g5); have j0 : w5.cell? ⟨w.heap.size, 0, none⟩ = some (.int .i64 a) := gX.cell hx0; have j1 : w5.cell? ⟨w.heap.size, 1, none⟩ = some (.int .i64 b) := gX.cell hx1; have j2 : w5.cell? ⟨w.heap.size + 1, 0, none⟩ = some (.int .i64 c) := gX.cell hy0; have j3 : w5.cell? ⟨w.heap.size + 1, 1, none⟩ = some (.int .i64 d) := gX.cell hy1) | (go_at_call 27; refine (iv_at _ _ _ _ _ _ _ ejl.out ejh.out (join_any _ _ _ _ _)).mono ?_; rintro e w5 ⟨rfl, g5⟩; have gX : Ext V0 w5 := (by first | exact Ext.trans gX g5 | exact (Ext.trans gX g5.past) | exact g5.past_drew | exact g5.past_drew.past | exact g5); have j0 : w5.cell? ⟨w.heap.size, 0, none⟩ = some (.int .i64 a) := gX.cell hx0; have j1 : w5.cell? ⟨w.heap.size, 1, none⟩ = some (.int .i64 b) := gX.cell hx1; have j2 : w5.cell? ⟨w.heap.size + 1, 0, none⟩ = some (.int .i64 c) := gX.cell hy0; have j3 : w5.cell? ⟨w.heap.size + 1, 1, none⟩ = some (.int .i64 d) := gX.cell hy1) | (go_at_call 28; refine (iv_at _ _ _ _ _ _ _ ejl.out ejh.out (rjoin_any _ _ _ _ _)).mono ?_; rintro e w5 ⟨rfl, g5⟩; have gX : Ext V0 w5 := (by first | exact Ext.trans gX g5 | exact (Ext.trans gX g5.past) | exact g5.past_drew | exact g5.past_drew.past | exact g5); have j0 : w5.cell? ⟨w.heap.size, 0, none⟩ = some (.int .i64 a) := gX.cell hx0; have j1 : w5.cell? ⟨w.heap.size, 1, none⟩ = some (.int .i64 b) := gX.cell hx1; have j2 : w5.cell? ⟨w.heap.size + 1, 0, none⟩ = some (.int .i64 c) := gX.cell hy0; have j3 : w5.cell? ⟨w.heap.size + 1, 1, none⟩ = some (.int .i64 d) := gX.cell hy1) | (go_at_call 17; refine (iv_at _ _ _ _ _ _ _ ewl.out ewh.out (widen_any _ _ _ _ _)).mono ?_; rintro e w5 ⟨rfl, g5⟩; have gX : Ext V0 w5 := (by first | exact Ext.trans gX g5 | exact (Ext.trans gX g5.past) | exact g5.past_drew | exact g5.past_drew.past | exact g5); have j0 : w5.cell? ⟨w.heap.size, 0, none⟩ = some (.int .i64 a) := gX.cell hx0; have j1 : w5.cell? ⟨w.heap.size, 1, none⟩ = some (.int .i64 b) := gX.cell hx1; have j2 : w5.cell? ⟨w.heap.size + 1, 0, none⟩ = some (.int .i64 c) := gX.cell hy0; have j3 : w5.cell? ⟨w.heap.size + 1, 1, none⟩ = some (.int .i64 d) := gX.cell hy1) | (go_at_call 29; refine (iv_at _ _ _ _ _ _ _ ewl.out ewh.out (rwiden_any _ _ _ _ _)).mono ?_; rintro e w5 ⟨rfl, g5⟩; have gX : Ext V0 w5 := (by first | exact Ext.trans gX g5 | exact (Ext.trans gX g5.past) | exact g5.past_drew | exact g5.past_drew.past | exact g5); have j0 : w5.cell? ⟨w.heap.size, 0, none⟩ = some (.int .i64 a) := gX.cell hx0; have j1 : w5.cell? ⟨w.heap.size, 1, none⟩ = some (.int .i64 b) := gX.cell hx1; have j2 : w5.cell? ⟨w.heap.size + 1, 0, none⟩ = some (.int .i64 c) := gX.cell hy0; have j3 : w5.cell? ⟨w.heap.size + 1, 1, none⟩ = some (.int .i64 d) := gX.cell hy1))
  go_wp2_with fail
  go_ret
  exact ⟨rfl, E0.trans gX⟩
theorem tup_at (nm : Nat) (xs : Array Value) (l h e l' h' e' : Int) (w : World) (hl : l = l') (hh : h = h') (he : e = e') (hc : Calls Try.prog nm xs w fun x w' => x = .returned (.tuple #[.agg #[.int .i64 l, .int .i64 h], .int .i64 e]) ∧ Ext w w') : Calls Try.prog nm xs w fun x w' => x = .returned (.tuple #[.agg #[.int .i64 l', .int .i64 h'], .int .i64 e']) ∧ Ext w w' := by rw [← hl, ← hh, ← he]; exact hc
set_option maxHeartbeats 4000000 in
theorem IntervalApplies_any (op a b c d : Int) (bop0 : -9223372036854775808 ≤ op) (bop1 : op ≤ 9223372036854775807) (ba0 : -9223372036854775808 ≤ a) (ba1 : a ≤ 9223372036854775807) (bb0 : -9223372036854775808 ≤ b) (bb1 : b ≤ 9223372036854775807) (bc0 : -9223372036854775808 ≤ c) (bc1 : c ≤ 9223372036854775807) (bd0 : -9223372036854775808 ≤ d) (bd1 : d ≤ 9223372036854775807) (w : World) : Calls Try.prog 3 #[.int .i64 op, .agg #[.int .i64 a, .int .i64 b], .agg #[.int .i64 c, .int .i64 d]] w fun x w' => x = .returned (.bool true) ∧ Ext w w' := by
  obtain ⟨l, el⟩ : ∃ z, (iaF op a b c d).1 = z := ⟨_, rfl⟩
  have el := hidden el
  obtain ⟨h, eh⟩ : ∃ z, (iaF op a b c d).2.1 = z := ⟨_, rfl⟩
  have eh := hidden eh
  obtain ⟨er, eer⟩ : ∃ z, (iaF op a b c d).2.2 = z := ⟨_, rfl⟩
  have eer := hidden eer
  have Bx : Blk ((w.alloc (.cells #[.int .i64 a, .int .i64 b] 23)).alloc (.cells #[.int .i64 c, .int .i64 d] 23)) (w.heap.size) 23 [.int .i64 a, .int .i64 b] := by
    have := Blk.new (w) [.int .i64 a, .int .i64 b] 23
    exact (this).alloc _
  have By : Blk ((w.alloc (.cells #[.int .i64 a, .int .i64 b] 23)).alloc (.cells #[.int .i64 c, .int .i64 d] 23)) (w.heap.size + 1) 23 [.int .i64 c, .int .i64 d] := by
    have := Blk.new (w.alloc (.cells #[.int .i64 a, .int .i64 b] 23)) [.int .i64 c, .int .i64 d] 23
    rw [World.size_alloc] at this
    exact this
  have E0 : Ext w ((w.alloc (.cells #[.int .i64 a, .int .i64 b] 23)).alloc (.cells #[.int .i64 c, .int .i64 d] 23)) := ((Ext.refl w).alloc _).alloc _
  go_enter Try.func3, Try.ntmps3
  go_wp2_with fail
  refine (tup_at _ _ _ _ _ _ _ _ _ el.out eh.out eer.out (ivapply_any op a b c d _)).mono ?_
  rintro e1 w1 ⟨rfl, g1⟩
  have Bp := Blk.new w1 [.int .i64 l, .int .i64 h] 23
  have Bx1 := (Bx.ext g1).alloc (.cells #[.int .i64 l, .int .i64 h] 23)
  have By1 := (By.ext g1).alloc (.cells #[.int .i64 l, .int .i64 h] 23)
  have E1 := (E0.trans g1).alloc (.cells #[.int .i64 l, .int .i64 h] 23)
  clear Bx By E0 g1
  obtain ⟨V1, hV1⟩ : ∃ V, w1.alloc (.cells #[.int .i64 l, .int .i64 h] 23) = V := ⟨_, rfl⟩
  obtain ⟨p, hp⟩ : ∃ p, w1.heap.size = p := ⟨_, rfl⟩
  rw [hV1] at Bp Bx1 By1 E1
  rw [hp] at Bp
  have hx0 := Bx1.cell 0 _ rfl
  have hx1 := Bx1.cell 1 _ rfl
  have hy0 := By1.cell 0 _ rfl
  have hy1 := By1.cell 1 _ rfl
  go_upto_region 2 with fail
  try rw [hV1]
  try rw [hp]
  clear hV1 hp
  go_wp2_with fail
  refine (tup_at _ _ _ _ _ _ _ _ _ el.out eh.out eer.out (rivapply_any op a b c d _)).mono ?_
  rintro e2 w2 ⟨rfl, g2⟩
  have Bq := Blk.new w2 [.int .i64 l, .int .i64 h] 23
  have Bp2 := (Bp.ext g2).alloc (.cells #[.int .i64 l, .int .i64 h] 23)
  have E2 := (E1.trans g2).alloc (.cells #[.int .i64 l, .int .i64 h] 23)
  clear Bp Bx1 By1 E1 g2 hx0 hx1 hy0 hy1
  obtain ⟨V2, hV2⟩ : ∃ V, w2.alloc (.cells #[.int .i64 l, .int .i64 h] 23) = V := ⟨_, rfl⟩
  obtain ⟨q, hq⟩ : ∃ p, w2.heap.size = p := ⟨_, rfl⟩
  rw [hV2] at Bq Bp2 E2
  rw [hq] at Bq
  go_upto_region 3 with fail
  try rw [hV2]
  try rw [hq]
  clear hV2 hq
  go_wp2_with fail
  refine (awake_any _).mono ?_
  rintro e3 w3 ⟨rfl, g3⟩
  have Bp3 := Bp2.ext g3
  have Bq3 := Bq.ext g3
  have hp0 := Bp3.cell 0 _ rfl
  have hp1 := Bp3.cell 1 _ rfl
  have hq0 := Bq3.cell 0 _ rfl
  have hq1 := Bq3.cell 1 _ rfl
  have z2 : (er == er) = true := by simp
  go_wp2_with fail
  go_ret
  exact ⟨rfl, E2.trans g3⟩
end Go.Proofs.Ytbpnagamcohlnaa
