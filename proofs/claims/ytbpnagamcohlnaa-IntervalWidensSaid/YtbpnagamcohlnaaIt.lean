/- Apply of layer 19: exact operands; a rule. -/
import Derived.Test.YtbpnagamcohlnaaIq
import Derived.Test.YtbpnagamcohlnaaIs
namespace Go.Proofs.Ytbpnagamcohlnaa
open Go.RowKit
set_option linter.unusedVariables false


set_option maxHeartbeats 2000000 in
theorem iv_ex1 (a b c d : Int) (op : Int) (f : Nat) (hl : ∀ w : World, (Instr.lookup 53 (.map (some w.heap.size)) (.int .i64 op) true).run Try.prog (w.alloc (tblObj rulT)) = .ok (.tuple #[.func (.func f) #[] #[], .bool true]) (w.alloc (tblObj rulT))) (h1 : Ivl a a) (h2 : Ivl c c) (kc : (c == 0) = false) (hap : apF op a c = (apV op a c, 0)) (w : World) : Calls Try.prog 10 #[.int .i64 op, .agg #[.int .i64 a, .int .i64 a], .agg #[.int .i64 c, .int .i64 c]] w fun x w' => x = .returned (.tuple #[.agg #[.int .i64 (apV op a c), .int .i64 (apV op a c)], .int .i64 0]) ∧ Ext w w' := by
  have hl := hidden hl
  obtain ⟨a0, a1⟩ : 0 ≤ a ∧ a ≤ 4294967295 := ⟨h1.1, h1.2.2⟩
  obtain ⟨c0, c1⟩ : 0 ≤ (c : Int) ∧ (c : Int) ≤ 4294967295 := ⟨h2.1, h2.2.2⟩
  have hp := fun w => iapply_any op a c a0 a1 c0 c1 w
  rw [hap] at hp
  obtain ⟨r0, r1⟩ := apV_bd op a c a0 a1 c0 c1
  obtain ⟨R, hR⟩ : ∃ R, apV op a c = R := ⟨_, rfl⟩
  rw [hR] at hp r0 r1 ⊢
  have hp := hidden hp
  clear hR hap
  have W0X : Blk ((((w.alloc (.cells #[.int .i64 a, .int .i64 a] 23)).alloc (.cells #[.int .i64 c, .int .i64 c] 23)).alloc (.cells #[.int .i64 0, .int .i64 0] 23)).alloc (.cells #[.int .i64 a, .int .i64 a, .int .i64 c, .int .i64 c] 23)) w.heap.size 23 [.int .i64 a, .int .i64 a] := by
    have := Blk.new (w) [.int .i64 a, .int .i64 a] 23
    exact ((this.alloc _).alloc _).alloc _
  have W0Y : Blk ((((w.alloc (.cells #[.int .i64 a, .int .i64 a] 23)).alloc (.cells #[.int .i64 c, .int .i64 c] 23)).alloc (.cells #[.int .i64 0, .int .i64 0] 23)).alloc (.cells #[.int .i64 a, .int .i64 a, .int .i64 c, .int .i64 c] 23)) (w.heap.size + 1) 23 [.int .i64 c, .int .i64 c] := by
    have := Blk.new (w.alloc (.cells #[.int .i64 a, .int .i64 a] 23)) [.int .i64 c, .int .i64 c] 23
    rw [World.size_alloc] at this
    exact (this.alloc _).alloc _
  have W0Z : Blk ((((w.alloc (.cells #[.int .i64 a, .int .i64 a] 23)).alloc (.cells #[.int .i64 c, .int .i64 c] 23)).alloc (.cells #[.int .i64 0, .int .i64 0] 23)).alloc (.cells #[.int .i64 a, .int .i64 a, .int .i64 c, .int .i64 c] 23)) (w.heap.size + 1 + 1) 23 [.int .i64 0, .int .i64 0] := by
    have := Blk.new ((w.alloc (.cells #[.int .i64 a, .int .i64 a] 23)).alloc (.cells #[.int .i64 c, .int .i64 c] 23)) [.int .i64 0, .int .i64 0] 23
    rw [World.size_alloc, World.size_alloc] at this
    exact this.alloc _
  have W0S : Blk ((((w.alloc (.cells #[.int .i64 a, .int .i64 a] 23)).alloc (.cells #[.int .i64 c, .int .i64 c] 23)).alloc (.cells #[.int .i64 0, .int .i64 0] 23)).alloc (.cells #[.int .i64 a, .int .i64 a, .int .i64 c, .int .i64 c] 23)) (w.heap.size + 1 + 1 + 1) 23 [.int .i64 a, .int .i64 a, .int .i64 c, .int .i64 c] := by
    have := Blk.new (((w.alloc (.cells #[.int .i64 a, .int .i64 a] 23)).alloc (.cells #[.int .i64 c, .int .i64 c] 23)).alloc (.cells #[.int .i64 0, .int .i64 0] 23)) [.int .i64 a, .int .i64 a, .int .i64 c, .int .i64 c] 23
    rw [World.size_alloc, World.size_alloc, World.size_alloc] at this
    exact this
  have hE0 : Ext w ((((w.alloc (.cells #[.int .i64 a, .int .i64 a] 23)).alloc (.cells #[.int .i64 c, .int .i64 c] 23)).alloc (.cells #[.int .i64 0, .int .i64 0] 23)).alloc (.cells #[.int .i64 a, .int .i64 a, .int .i64 c, .int .i64 c] 23)) := ((((Ext.refl w).alloc _).alloc _).alloc _).alloc _
  go_enter Try.func10, Try.ntmps10
  go_wp2_with fail
  obtain ⟨V0, hV0⟩ : ∃ V, (((w.alloc (.cells #[.int .i64 a, .int .i64 a] 23)).alloc (.cells #[.int .i64 c, .int .i64 c] 23)).alloc (.cells #[.int .i64 0, .int .i64 0] 23)).alloc (.cells #[.int .i64 a, .int .i64 a, .int .i64 c, .int .i64 c] 23) = V := ⟨_, rfl⟩
  rw [hV0] at W0X W0Y W0Z W0S hE0 ⊢
  clear hV0
  have qX0 := W0X.cell 0 _ rfl
  have qX1 := W0X.cell 1 _ rfl
  have lX := W0X.lt
  have qY0 := W0Y.cell 0 _ rfl
  have qY1 := W0Y.cell 1 _ rfl
  have lY := W0Y.lt
  have qZ0 := W0Z.cell 0 _ rfl
  have qZ1 := W0Z.cell 1 _ rfl
  have fZ0 := W0Z.frozen 0
  have fZ1 := W0Z.frozen 1
  have lZ := W0Z.lt
  have qS0 := W0S.cell 0 _ rfl
  have qS1 := W0S.cell 1 _ rfl
  have qS2 := W0S.cell 2 _ rfl
  have qS3 := W0S.cell 3 _ rfl
  have lS := W0S.lt
  refine wp_loop_rounds 3 ?_
  rw [rounds_succ]
  go_wp2_with fail
  refine (check_yes h1 _).mono ?_
  rintro e1 V1 ⟨rfl, g1⟩
  have hE1 := hE0.trans g1.past
  have W1X := W0X.ext g1.past
  have W1Y := W0Y.ext g1.past
  have W1Z := W0Z.ext g1.past
  have W1S := W0S.ext g1.past
  clear W0X W0Y W0Z W0S hE0 g1
  clear qX0 qX1 lX qY0 qY1 lY qZ0 qZ1 fZ0 fZ1 lZ qS0 qS1 qS2 qS3 lS
  have qX0 := W1X.cell 0 _ rfl
  have qX1 := W1X.cell 1 _ rfl
  have lX := W1X.lt
  have qY0 := W1Y.cell 0 _ rfl
  have qY1 := W1Y.cell 1 _ rfl
  have lY := W1Y.lt
  have qZ0 := W1Z.cell 0 _ rfl
  have qZ1 := W1Z.cell 1 _ rfl
  have fZ0 := W1Z.frozen 0
  have fZ1 := W1Z.frozen 1
  have lZ := W1Z.lt
  have qS0 := W1S.cell 0 _ rfl
  have qS1 := W1S.cell 1 _ rfl
  have qS2 := W1S.cell 2 _ rfl
  have qS3 := W1S.cell 3 _ rfl
  have lS := W1S.lt
  go_wp2_with fail
  rw [rounds_succ]
  go_wp2_with fail
  refine (check_yes h2 _).mono ?_
  rintro e2 V2 ⟨rfl, g2⟩
  have hE2 := hE1.trans g2.past
  have W2X := W1X.ext g2.past
  have W2Y := W1Y.ext g2.past
  have W2Z := W1Z.ext g2.past
  have W2S := W1S.ext g2.past
  clear W1X W1Y W1Z W1S hE1 g2
  clear qX0 qX1 lX qY0 qY1 lY qZ0 qZ1 fZ0 fZ1 lZ qS0 qS1 qS2 qS3 lS
  have qX0 := W2X.cell 0 _ rfl
  have qX1 := W2X.cell 1 _ rfl
  have lX := W2X.lt
  have qY0 := W2Y.cell 0 _ rfl
  have qY1 := W2Y.cell 1 _ rfl
  have lY := W2Y.lt
  have qZ0 := W2Z.cell 0 _ rfl
  have qZ1 := W2Z.cell 1 _ rfl
  have fZ0 := W2Z.frozen 0
  have fZ1 := W2Z.frozen 1
  have lZ := W2Z.lt
  have qS0 := W2S.cell 0 _ rfl
  have qS1 := W2S.cell 1 _ rfl
  have qS2 := W2S.cell 2 _ rfl
  have qS3 := W2S.cell 3 _ rfl
  have lS := W2S.lt
  go_wp2_with fail
  rw [rounds_succ]
  go_wp2_with fail
  refine (rules_any _).mono ?_
  rintro e3 w3 ⟨rfl, rfl⟩
  have hlk := hl.out V2
  have hE3 := hE2.alloc (tblObj rulT)
  have W3X := W2X.alloc (tblObj rulT)
  have W3Y := W2Y.alloc (tblObj rulT)
  have W3Z := W2Z.alloc (tblObj rulT)
  have W3S := W2S.alloc (tblObj rulT)
  clear W2X W2Y W2Z W2S hE2 hl
  clear qX0 qX1 lX qY0 qY1 lY qZ0 qZ1 fZ0 fZ1 lZ qS0 qS1 qS2 qS3 lS
  obtain ⟨V3, hV3⟩ : ∃ V, V2.alloc (tblObj rulT) = V := ⟨_, rfl⟩
  rw [hV3] at hlk hE3 W3X W3Y W3Z W3S ⊢
  clear hV3
  have qX0 := W3X.cell 0 _ rfl
  have qX1 := W3X.cell 1 _ rfl
  have lX := W3X.lt
  have qY0 := W3Y.cell 0 _ rfl
  have qY1 := W3Y.cell 1 _ rfl
  have lY := W3Y.lt
  have qZ0 := W3Z.cell 0 _ rfl
  have qZ1 := W3Z.cell 1 _ rfl
  have fZ0 := W3Z.frozen 0
  have fZ1 := W3Z.frozen 1
  have lZ := W3Z.lt
  have qS0 := W3S.cell 0 _ rfl
  have qS1 := W3S.cell 1 _ rfl
  have qS2 := W3S.cell 2 _ rfl
  have qS3 := W3S.cell 3 _ rfl
  have lS := W3S.lt
  go_wp2_with fail
  refine (hp.out _).mono ?_
  rintro e4 V4 ⟨rfl, g4⟩
  have hE4 := hE3.trans g4
  have W4X := W3X.ext g4
  have W4Y := W3Y.ext g4
  have W4Z := W3Z.ext g4
  have W4S := W3S.ext g4
  clear W3X W3Y W3Z W3S hE3 g4
  clear qX0 qX1 lX qY0 qY1 lY qZ0 qZ1 fZ0 fZ1 lZ qS0 qS1 qS2 qS3 lS
  have qX0 := W4X.cell 0 _ rfl
  have qX1 := W4X.cell 1 _ rfl
  have lX := W4X.lt
  have qY0 := W4Y.cell 0 _ rfl
  have qY1 := W4Y.cell 1 _ rfl
  have lY := W4Y.lt
  have qZ0 := W4Z.cell 0 _ rfl
  have qZ1 := W4Z.cell 1 _ rfl
  have fZ0 := W4Z.frozen 0
  have fZ1 := W4Z.frozen 1
  have lZ := W4Z.lt
  have qS0 := W4S.cell 0 _ rfl
  have qS1 := W4S.cell 1 _ rfl
  have qS2 := W4S.cell 2 _ rfl
  have qS3 := W4S.cell 3 _ rfl
  have lS := W4S.lt
  go_wp2_with fail
  refine (exact_any R r0 r1 _).mono ?_
  rintro e5 V5 ⟨rfl, g5⟩
  have hE5 := hE4.trans g5
  have W5X := W4X.ext g5
  have W5Y := W4Y.ext g5
  have W5Z := W4Z.ext g5
  have W5S := W4S.ext g5
  clear W4X W4Y W4Z W4S hE4 g5
  clear qX0 qX1 lX qY0 qY1 lY qZ0 qZ1 fZ0 fZ1 lZ qS0 qS1 qS2 qS3 lS
  have qX0 := W5X.cell 0 _ rfl
  have qX1 := W5X.cell 1 _ rfl
  have lX := W5X.lt
  have qY0 := W5Y.cell 0 _ rfl
  have qY1 := W5Y.cell 1 _ rfl
  have lY := W5Y.lt
  have qZ0 := W5Z.cell 0 _ rfl
  have qZ1 := W5Z.cell 1 _ rfl
  have fZ0 := W5Z.frozen 0
  have fZ1 := W5Z.frozen 1
  have lZ := W5Z.lt
  have qS0 := W5S.cell 0 _ rfl
  have qS1 := W5S.cell 1 _ rfl
  have qS2 := W5S.cell 2 _ rfl
  have qS3 := W5S.cell 3 _ rfl
  have lS := W5S.lt
  go_wp2_with fail
  refine bodyPost_ret (v := .tuple #[.agg #[.int .i64 R, .int .i64 R], .int .i64 0]) (by simp [results, Try.results10, go_sem, *]) rfl ⟨rfl, ?_⟩
  repeat' (first | exact Ext.refl _ | assumption | (with_reducible refine Ext.alloc ?_ _) | (with_reducible refine Ext.drew ?_) | (with_reducible refine Ext.drewN _ ?_) | (refine Ext.setCell ?_ (by first | exact Nat.le_refl _ | (simp; done) | (simp; omega) | omega) _) | (refine Ext.trans ?_ (by assumption)))
set_option maxHeartbeats 2000000 in
theorem iv_ex0 (a b c d : Int) (op : Int) (f : Nat) (hl : ∀ w : World, (Instr.lookup 53 (.map (some w.heap.size)) (.int .i64 op) true).run Try.prog (w.alloc (tblObj rulT)) = .ok (.tuple #[.func (.func f) #[] #[], .bool true]) (w.alloc (tblObj rulT))) (h1 : Ivl a a) (h2 : Ivl 0 0) (k1 : (op == 11) = false) (k2 : (op == 12) = false) (hap : apF op a 0 = (apV op a 0, 0)) (w : World) : Calls Try.prog 10 #[.int .i64 op, .agg #[.int .i64 a, .int .i64 a], .agg #[.int .i64 0, .int .i64 0]] w fun x w' => x = .returned (.tuple #[.agg #[.int .i64 (apV op a 0), .int .i64 (apV op a 0)], .int .i64 0]) ∧ Ext w w' := by
  have hl := hidden hl
  obtain ⟨a0, a1⟩ : 0 ≤ a ∧ a ≤ 4294967295 := ⟨h1.1, h1.2.2⟩
  obtain ⟨c0, c1⟩ : 0 ≤ (0 : Int) ∧ (0 : Int) ≤ 4294967295 := ⟨h2.1, h2.2.2⟩
  have hp := fun w => iapply_any op a 0 a0 a1 c0 c1 w
  rw [hap] at hp
  obtain ⟨r0, r1⟩ := apV_bd op a 0 a0 a1 c0 c1
  obtain ⟨R, hR⟩ : ∃ R, apV op a 0 = R := ⟨_, rfl⟩
  rw [hR] at hp r0 r1 ⊢
  have hp := hidden hp
  clear hR hap
  have W0X : Blk ((((w.alloc (.cells #[.int .i64 a, .int .i64 a] 23)).alloc (.cells #[.int .i64 0, .int .i64 0] 23)).alloc (.cells #[.int .i64 0, .int .i64 0] 23)).alloc (.cells #[.int .i64 a, .int .i64 a, .int .i64 0, .int .i64 0] 23)) w.heap.size 23 [.int .i64 a, .int .i64 a] := by
    have := Blk.new (w) [.int .i64 a, .int .i64 a] 23
    exact ((this.alloc _).alloc _).alloc _
  have W0Y : Blk ((((w.alloc (.cells #[.int .i64 a, .int .i64 a] 23)).alloc (.cells #[.int .i64 0, .int .i64 0] 23)).alloc (.cells #[.int .i64 0, .int .i64 0] 23)).alloc (.cells #[.int .i64 a, .int .i64 a, .int .i64 0, .int .i64 0] 23)) (w.heap.size + 1) 23 [.int .i64 0, .int .i64 0] := by
    have := Blk.new (w.alloc (.cells #[.int .i64 a, .int .i64 a] 23)) [.int .i64 0, .int .i64 0] 23
    rw [World.size_alloc] at this
    exact (this.alloc _).alloc _
  have W0Z : Blk ((((w.alloc (.cells #[.int .i64 a, .int .i64 a] 23)).alloc (.cells #[.int .i64 0, .int .i64 0] 23)).alloc (.cells #[.int .i64 0, .int .i64 0] 23)).alloc (.cells #[.int .i64 a, .int .i64 a, .int .i64 0, .int .i64 0] 23)) (w.heap.size + 1 + 1) 23 [.int .i64 0, .int .i64 0] := by
    have := Blk.new ((w.alloc (.cells #[.int .i64 a, .int .i64 a] 23)).alloc (.cells #[.int .i64 0, .int .i64 0] 23)) [.int .i64 0, .int .i64 0] 23
    rw [World.size_alloc, World.size_alloc] at this
    exact this.alloc _
  have W0S : Blk ((((w.alloc (.cells #[.int .i64 a, .int .i64 a] 23)).alloc (.cells #[.int .i64 0, .int .i64 0] 23)).alloc (.cells #[.int .i64 0, .int .i64 0] 23)).alloc (.cells #[.int .i64 a, .int .i64 a, .int .i64 0, .int .i64 0] 23)) (w.heap.size + 1 + 1 + 1) 23 [.int .i64 a, .int .i64 a, .int .i64 0, .int .i64 0] := by
    have := Blk.new (((w.alloc (.cells #[.int .i64 a, .int .i64 a] 23)).alloc (.cells #[.int .i64 0, .int .i64 0] 23)).alloc (.cells #[.int .i64 0, .int .i64 0] 23)) [.int .i64 a, .int .i64 a, .int .i64 0, .int .i64 0] 23
    rw [World.size_alloc, World.size_alloc, World.size_alloc] at this
    exact this
  have hE0 : Ext w ((((w.alloc (.cells #[.int .i64 a, .int .i64 a] 23)).alloc (.cells #[.int .i64 0, .int .i64 0] 23)).alloc (.cells #[.int .i64 0, .int .i64 0] 23)).alloc (.cells #[.int .i64 a, .int .i64 a, .int .i64 0, .int .i64 0] 23)) := ((((Ext.refl w).alloc _).alloc _).alloc _).alloc _
  go_enter Try.func10, Try.ntmps10
  go_wp2_with fail
  obtain ⟨V0, hV0⟩ : ∃ V, (((w.alloc (.cells #[.int .i64 a, .int .i64 a] 23)).alloc (.cells #[.int .i64 0, .int .i64 0] 23)).alloc (.cells #[.int .i64 0, .int .i64 0] 23)).alloc (.cells #[.int .i64 a, .int .i64 a, .int .i64 0, .int .i64 0] 23) = V := ⟨_, rfl⟩
  rw [hV0] at W0X W0Y W0Z W0S hE0 ⊢
  clear hV0
  have qX0 := W0X.cell 0 _ rfl
  have qX1 := W0X.cell 1 _ rfl
  have lX := W0X.lt
  have qY0 := W0Y.cell 0 _ rfl
  have qY1 := W0Y.cell 1 _ rfl
  have lY := W0Y.lt
  have qZ0 := W0Z.cell 0 _ rfl
  have qZ1 := W0Z.cell 1 _ rfl
  have fZ0 := W0Z.frozen 0
  have fZ1 := W0Z.frozen 1
  have lZ := W0Z.lt
  have qS0 := W0S.cell 0 _ rfl
  have qS1 := W0S.cell 1 _ rfl
  have qS2 := W0S.cell 2 _ rfl
  have qS3 := W0S.cell 3 _ rfl
  have lS := W0S.lt
  refine wp_loop_rounds 3 ?_
  rw [rounds_succ]
  go_wp2_with fail
  refine (check_yes h1 _).mono ?_
  rintro e1 V1 ⟨rfl, g1⟩
  have hE1 := hE0.trans g1.past
  have W1X := W0X.ext g1.past
  have W1Y := W0Y.ext g1.past
  have W1Z := W0Z.ext g1.past
  have W1S := W0S.ext g1.past
  clear W0X W0Y W0Z W0S hE0 g1
  clear qX0 qX1 lX qY0 qY1 lY qZ0 qZ1 fZ0 fZ1 lZ qS0 qS1 qS2 qS3 lS
  have qX0 := W1X.cell 0 _ rfl
  have qX1 := W1X.cell 1 _ rfl
  have lX := W1X.lt
  have qY0 := W1Y.cell 0 _ rfl
  have qY1 := W1Y.cell 1 _ rfl
  have lY := W1Y.lt
  have qZ0 := W1Z.cell 0 _ rfl
  have qZ1 := W1Z.cell 1 _ rfl
  have fZ0 := W1Z.frozen 0
  have fZ1 := W1Z.frozen 1
  have lZ := W1Z.lt
  have qS0 := W1S.cell 0 _ rfl
  have qS1 := W1S.cell 1 _ rfl
  have qS2 := W1S.cell 2 _ rfl
  have qS3 := W1S.cell 3 _ rfl
  have lS := W1S.lt
  go_wp2_with fail
  rw [rounds_succ]
  go_wp2_with fail
  refine (check_yes h2 _).mono ?_
  rintro e2 V2 ⟨rfl, g2⟩
  have hE2 := hE1.trans g2.past
  have W2X := W1X.ext g2.past
  have W2Y := W1Y.ext g2.past
  have W2Z := W1Z.ext g2.past
  have W2S := W1S.ext g2.past
  clear W1X W1Y W1Z W1S hE1 g2
  clear qX0 qX1 lX qY0 qY1 lY qZ0 qZ1 fZ0 fZ1 lZ qS0 qS1 qS2 qS3 lS
  have qX0 := W2X.cell 0 _ rfl
  have qX1 := W2X.cell 1 _ rfl
  have lX := W2X.lt
  have qY0 := W2Y.cell 0 _ rfl
  have qY1 := W2Y.cell 1 _ rfl
  have lY := W2Y.lt
  have qZ0 := W2Z.cell 0 _ rfl
  have qZ1 := W2Z.cell 1 _ rfl
  have fZ0 := W2Z.frozen 0
  have fZ1 := W2Z.frozen 1
  have lZ := W2Z.lt
  have qS0 := W2S.cell 0 _ rfl
  have qS1 := W2S.cell 1 _ rfl
  have qS2 := W2S.cell 2 _ rfl
  have qS3 := W2S.cell 3 _ rfl
  have lS := W2S.lt
  go_wp2_with fail
  rw [rounds_succ]
  go_wp2_with fail
  refine (rules_any _).mono ?_
  rintro e3 w3 ⟨rfl, rfl⟩
  have hlk := hl.out V2
  have hE3 := hE2.alloc (tblObj rulT)
  have W3X := W2X.alloc (tblObj rulT)
  have W3Y := W2Y.alloc (tblObj rulT)
  have W3Z := W2Z.alloc (tblObj rulT)
  have W3S := W2S.alloc (tblObj rulT)
  clear W2X W2Y W2Z W2S hE2 hl
  clear qX0 qX1 lX qY0 qY1 lY qZ0 qZ1 fZ0 fZ1 lZ qS0 qS1 qS2 qS3 lS
  obtain ⟨V3, hV3⟩ : ∃ V, V2.alloc (tblObj rulT) = V := ⟨_, rfl⟩
  rw [hV3] at hlk hE3 W3X W3Y W3Z W3S ⊢
  clear hV3
  have qX0 := W3X.cell 0 _ rfl
  have qX1 := W3X.cell 1 _ rfl
  have lX := W3X.lt
  have qY0 := W3Y.cell 0 _ rfl
  have qY1 := W3Y.cell 1 _ rfl
  have lY := W3Y.lt
  have qZ0 := W3Z.cell 0 _ rfl
  have qZ1 := W3Z.cell 1 _ rfl
  have fZ0 := W3Z.frozen 0
  have fZ1 := W3Z.frozen 1
  have lZ := W3Z.lt
  have qS0 := W3S.cell 0 _ rfl
  have qS1 := W3S.cell 1 _ rfl
  have qS2 := W3S.cell 2 _ rfl
  have qS3 := W3S.cell 3 _ rfl
  have lS := W3S.lt
  go_wp2_with fail
  refine (hp.out _).mono ?_
  rintro e4 V4 ⟨rfl, g4⟩
  have hE4 := hE3.trans g4
  have W4X := W3X.ext g4
  have W4Y := W3Y.ext g4
  have W4Z := W3Z.ext g4
  have W4S := W3S.ext g4
  clear W3X W3Y W3Z W3S hE3 g4
  clear qX0 qX1 lX qY0 qY1 lY qZ0 qZ1 fZ0 fZ1 lZ qS0 qS1 qS2 qS3 lS
  have qX0 := W4X.cell 0 _ rfl
  have qX1 := W4X.cell 1 _ rfl
  have lX := W4X.lt
  have qY0 := W4Y.cell 0 _ rfl
  have qY1 := W4Y.cell 1 _ rfl
  have lY := W4Y.lt
  have qZ0 := W4Z.cell 0 _ rfl
  have qZ1 := W4Z.cell 1 _ rfl
  have fZ0 := W4Z.frozen 0
  have fZ1 := W4Z.frozen 1
  have lZ := W4Z.lt
  have qS0 := W4S.cell 0 _ rfl
  have qS1 := W4S.cell 1 _ rfl
  have qS2 := W4S.cell 2 _ rfl
  have qS3 := W4S.cell 3 _ rfl
  have lS := W4S.lt
  go_wp2_with fail
  refine (exact_any R r0 r1 _).mono ?_
  rintro e5 V5 ⟨rfl, g5⟩
  have hE5 := hE4.trans g5
  have W5X := W4X.ext g5
  have W5Y := W4Y.ext g5
  have W5Z := W4Z.ext g5
  have W5S := W4S.ext g5
  clear W4X W4Y W4Z W4S hE4 g5
  clear qX0 qX1 lX qY0 qY1 lY qZ0 qZ1 fZ0 fZ1 lZ qS0 qS1 qS2 qS3 lS
  have qX0 := W5X.cell 0 _ rfl
  have qX1 := W5X.cell 1 _ rfl
  have lX := W5X.lt
  have qY0 := W5Y.cell 0 _ rfl
  have qY1 := W5Y.cell 1 _ rfl
  have lY := W5Y.lt
  have qZ0 := W5Z.cell 0 _ rfl
  have qZ1 := W5Z.cell 1 _ rfl
  have fZ0 := W5Z.frozen 0
  have fZ1 := W5Z.frozen 1
  have lZ := W5Z.lt
  have qS0 := W5S.cell 0 _ rfl
  have qS1 := W5S.cell 1 _ rfl
  have qS2 := W5S.cell 2 _ rfl
  have qS3 := W5S.cell 3 _ rfl
  have lS := W5S.lt
  go_wp2_with fail
  refine bodyPost_ret (v := .tuple #[.agg #[.int .i64 R, .int .i64 R], .int .i64 0]) (by simp [results, Try.results10, go_sem, *]) rfl ⟨rfl, ?_⟩
  repeat' (first | exact Ext.refl _ | assumption | (with_reducible refine Ext.alloc ?_ _) | (with_reducible refine Ext.drew ?_) | (with_reducible refine Ext.drewN _ ?_) | (refine Ext.setCell ?_ (by first | exact Nat.le_refl _ | (simp; done) | (simp; omega) | omega) _) | (refine Ext.trans ?_ (by assumption)))
set_option maxHeartbeats 2000000 in
theorem iv_r1 (a b c d : Int) (op : Int) (f : Nat) (hl : ∀ w : World, (Instr.lookup 53 (.map (some w.heap.size)) (.int .i64 op) true).run Try.prog (w.alloc (tblObj rulT)) = .ok (.tuple #[.func (.func f) #[] #[], .bool true]) (w.alloc (tblObj rulT))) (h1 : Ivl a b) (h2 : Ivl c d) (hent : ∀ (args : Array Value) (w : World), (callFunc f args).run Try.prog w = .ok (Next.enter f args) w) (L H : Int) (hcall : ∀ w : World, Calls Try.prog f #[.agg #[.int .i64 a, .int .i64 b, .int .i64 c, .int .i64 d]] w fun x w' => x = .returned (.agg #[.int .i64 L, .int .i64 H]) ∧ Ext w w') (ka : (a == b) = false) (kc : (c == 0) = false) (w : World) : Calls Try.prog 10 #[.int .i64 op, .agg #[.int .i64 a, .int .i64 b], .agg #[.int .i64 c, .int .i64 d]] w fun x w' => x = .returned (.tuple #[.agg #[.int .i64 L, .int .i64 H], .int .i64 0]) ∧ Ext w w' := by
  have hl := hidden hl
  have hcall := hidden hcall
  have W0X : Blk ((((w.alloc (.cells #[.int .i64 a, .int .i64 b] 23)).alloc (.cells #[.int .i64 c, .int .i64 d] 23)).alloc (.cells #[.int .i64 0, .int .i64 0] 23)).alloc (.cells #[.int .i64 a, .int .i64 b, .int .i64 c, .int .i64 d] 23)) w.heap.size 23 [.int .i64 a, .int .i64 b] := by
    have := Blk.new (w) [.int .i64 a, .int .i64 b] 23
    exact ((this.alloc _).alloc _).alloc _
  have W0Y : Blk ((((w.alloc (.cells #[.int .i64 a, .int .i64 b] 23)).alloc (.cells #[.int .i64 c, .int .i64 d] 23)).alloc (.cells #[.int .i64 0, .int .i64 0] 23)).alloc (.cells #[.int .i64 a, .int .i64 b, .int .i64 c, .int .i64 d] 23)) (w.heap.size + 1) 23 [.int .i64 c, .int .i64 d] := by
    have := Blk.new (w.alloc (.cells #[.int .i64 a, .int .i64 b] 23)) [.int .i64 c, .int .i64 d] 23
    rw [World.size_alloc] at this
    exact (this.alloc _).alloc _
  have W0Z : Blk ((((w.alloc (.cells #[.int .i64 a, .int .i64 b] 23)).alloc (.cells #[.int .i64 c, .int .i64 d] 23)).alloc (.cells #[.int .i64 0, .int .i64 0] 23)).alloc (.cells #[.int .i64 a, .int .i64 b, .int .i64 c, .int .i64 d] 23)) (w.heap.size + 1 + 1) 23 [.int .i64 0, .int .i64 0] := by
    have := Blk.new ((w.alloc (.cells #[.int .i64 a, .int .i64 b] 23)).alloc (.cells #[.int .i64 c, .int .i64 d] 23)) [.int .i64 0, .int .i64 0] 23
    rw [World.size_alloc, World.size_alloc] at this
    exact this.alloc _
  have W0S : Blk ((((w.alloc (.cells #[.int .i64 a, .int .i64 b] 23)).alloc (.cells #[.int .i64 c, .int .i64 d] 23)).alloc (.cells #[.int .i64 0, .int .i64 0] 23)).alloc (.cells #[.int .i64 a, .int .i64 b, .int .i64 c, .int .i64 d] 23)) (w.heap.size + 1 + 1 + 1) 23 [.int .i64 a, .int .i64 b, .int .i64 c, .int .i64 d] := by
    have := Blk.new (((w.alloc (.cells #[.int .i64 a, .int .i64 b] 23)).alloc (.cells #[.int .i64 c, .int .i64 d] 23)).alloc (.cells #[.int .i64 0, .int .i64 0] 23)) [.int .i64 a, .int .i64 b, .int .i64 c, .int .i64 d] 23
    rw [World.size_alloc, World.size_alloc, World.size_alloc] at this
    exact this
  have hE0 : Ext w ((((w.alloc (.cells #[.int .i64 a, .int .i64 b] 23)).alloc (.cells #[.int .i64 c, .int .i64 d] 23)).alloc (.cells #[.int .i64 0, .int .i64 0] 23)).alloc (.cells #[.int .i64 a, .int .i64 b, .int .i64 c, .int .i64 d] 23)) := ((((Ext.refl w).alloc _).alloc _).alloc _).alloc _
  go_enter Try.func10, Try.ntmps10
  go_wp2_with fail
  obtain ⟨V0, hV0⟩ : ∃ V, (((w.alloc (.cells #[.int .i64 a, .int .i64 b] 23)).alloc (.cells #[.int .i64 c, .int .i64 d] 23)).alloc (.cells #[.int .i64 0, .int .i64 0] 23)).alloc (.cells #[.int .i64 a, .int .i64 b, .int .i64 c, .int .i64 d] 23) = V := ⟨_, rfl⟩
  rw [hV0] at W0X W0Y W0Z W0S hE0 ⊢
  clear hV0
  have qX0 := W0X.cell 0 _ rfl
  have qX1 := W0X.cell 1 _ rfl
  have lX := W0X.lt
  have qY0 := W0Y.cell 0 _ rfl
  have qY1 := W0Y.cell 1 _ rfl
  have lY := W0Y.lt
  have qZ0 := W0Z.cell 0 _ rfl
  have qZ1 := W0Z.cell 1 _ rfl
  have fZ0 := W0Z.frozen 0
  have fZ1 := W0Z.frozen 1
  have lZ := W0Z.lt
  have qS0 := W0S.cell 0 _ rfl
  have qS1 := W0S.cell 1 _ rfl
  have qS2 := W0S.cell 2 _ rfl
  have qS3 := W0S.cell 3 _ rfl
  have lS := W0S.lt
  refine wp_loop_rounds 3 ?_
  rw [rounds_succ]
  go_wp2_with fail
  refine (check_yes h1 _).mono ?_
  rintro e1 V1 ⟨rfl, g1⟩
  have hE1 := hE0.trans g1.past
  have W1X := W0X.ext g1.past
  have W1Y := W0Y.ext g1.past
  have W1Z := W0Z.ext g1.past
  have W1S := W0S.ext g1.past
  clear W0X W0Y W0Z W0S hE0 g1
  clear qX0 qX1 lX qY0 qY1 lY qZ0 qZ1 fZ0 fZ1 lZ qS0 qS1 qS2 qS3 lS
  have qX0 := W1X.cell 0 _ rfl
  have qX1 := W1X.cell 1 _ rfl
  have lX := W1X.lt
  have qY0 := W1Y.cell 0 _ rfl
  have qY1 := W1Y.cell 1 _ rfl
  have lY := W1Y.lt
  have qZ0 := W1Z.cell 0 _ rfl
  have qZ1 := W1Z.cell 1 _ rfl
  have fZ0 := W1Z.frozen 0
  have fZ1 := W1Z.frozen 1
  have lZ := W1Z.lt
  have qS0 := W1S.cell 0 _ rfl
  have qS1 := W1S.cell 1 _ rfl
  have qS2 := W1S.cell 2 _ rfl
  have qS3 := W1S.cell 3 _ rfl
  have lS := W1S.lt
  go_wp2_with fail
  rw [rounds_succ]
  go_wp2_with fail
  refine (check_yes h2 _).mono ?_
  rintro e2 V2 ⟨rfl, g2⟩
  have hE2 := hE1.trans g2.past
  have W2X := W1X.ext g2.past
  have W2Y := W1Y.ext g2.past
  have W2Z := W1Z.ext g2.past
  have W2S := W1S.ext g2.past
  clear W1X W1Y W1Z W1S hE1 g2
  clear qX0 qX1 lX qY0 qY1 lY qZ0 qZ1 fZ0 fZ1 lZ qS0 qS1 qS2 qS3 lS
  have qX0 := W2X.cell 0 _ rfl
  have qX1 := W2X.cell 1 _ rfl
  have lX := W2X.lt
  have qY0 := W2Y.cell 0 _ rfl
  have qY1 := W2Y.cell 1 _ rfl
  have lY := W2Y.lt
  have qZ0 := W2Z.cell 0 _ rfl
  have qZ1 := W2Z.cell 1 _ rfl
  have fZ0 := W2Z.frozen 0
  have fZ1 := W2Z.frozen 1
  have lZ := W2Z.lt
  have qS0 := W2S.cell 0 _ rfl
  have qS1 := W2S.cell 1 _ rfl
  have qS2 := W2S.cell 2 _ rfl
  have qS3 := W2S.cell 3 _ rfl
  have lS := W2S.lt
  go_wp2_with fail
  rw [rounds_succ]
  go_wp2_with fail
  refine (rules_any _).mono ?_
  rintro e3 w3 ⟨rfl, rfl⟩
  have hlk := hl.out V2
  have hE3 := hE2.alloc (tblObj rulT)
  have W3X := W2X.alloc (tblObj rulT)
  have W3Y := W2Y.alloc (tblObj rulT)
  have W3Z := W2Z.alloc (tblObj rulT)
  have W3S := W2S.alloc (tblObj rulT)
  clear W2X W2Y W2Z W2S hE2 hl
  clear qX0 qX1 lX qY0 qY1 lY qZ0 qZ1 fZ0 fZ1 lZ qS0 qS1 qS2 qS3 lS
  obtain ⟨V3, hV3⟩ : ∃ V, V2.alloc (tblObj rulT) = V := ⟨_, rfl⟩
  rw [hV3] at hlk hE3 W3X W3Y W3Z W3S ⊢
  clear hV3
  have qX0 := W3X.cell 0 _ rfl
  have qX1 := W3X.cell 1 _ rfl
  have lX := W3X.lt
  have qY0 := W3Y.cell 0 _ rfl
  have qY1 := W3Y.cell 1 _ rfl
  have lY := W3Y.lt
  have qZ0 := W3Z.cell 0 _ rfl
  have qZ1 := W3Z.cell 1 _ rfl
  have fZ0 := W3Z.frozen 0
  have fZ1 := W3Z.frozen 1
  have lZ := W3Z.lt
  have qS0 := W3S.cell 0 _ rfl
  have qS1 := W3S.cell 1 _ rfl
  have qS2 := W3S.cell 2 _ rfl
  have qS3 := W3S.cell 3 _ rfl
  have lS := W3S.lt
  go_wp2_with fail
  refine (hcall.out _).mono ?_
  rintro e4 V4 ⟨rfl, g4⟩
  have hE4 := hE3.trans g4
  have W4X := W3X.ext g4
  have W4Y := W3Y.ext g4
  have W4Z := W3Z.ext g4
  have W4S := W3S.ext g4
  clear W3X W3Y W3Z W3S hE3 g4
  clear qX0 qX1 lX qY0 qY1 lY qZ0 qZ1 fZ0 fZ1 lZ qS0 qS1 qS2 qS3 lS
  have qX0 := W4X.cell 0 _ rfl
  have qX1 := W4X.cell 1 _ rfl
  have lX := W4X.lt
  have qY0 := W4Y.cell 0 _ rfl
  have qY1 := W4Y.cell 1 _ rfl
  have lY := W4Y.lt
  have qZ0 := W4Z.cell 0 _ rfl
  have qZ1 := W4Z.cell 1 _ rfl
  have fZ0 := W4Z.frozen 0
  have fZ1 := W4Z.frozen 1
  have lZ := W4Z.lt
  have qS0 := W4S.cell 0 _ rfl
  have qS1 := W4S.cell 1 _ rfl
  have qS2 := W4S.cell 2 _ rfl
  have qS3 := W4S.cell 3 _ rfl
  have lS := W4S.lt
  go_wp2_with fail
  refine bodyPost_ret (v := .tuple #[.agg #[.int .i64 L, .int .i64 H], .int .i64 0]) (by simp [results, Try.results10, go_sem, *]) rfl ⟨rfl, ?_⟩
  repeat' (first | exact Ext.refl _ | assumption | (with_reducible refine Ext.alloc ?_ _) | (with_reducible refine Ext.drew ?_) | (with_reducible refine Ext.drewN _ ?_) | (refine Ext.setCell ?_ (by first | exact Nat.le_refl _ | (simp; done) | (simp; omega) | omega) _) | (refine Ext.trans ?_ (by assumption)))
set_option maxHeartbeats 2000000 in
theorem iv_r2 (a b c d : Int) (op : Int) (f : Nat) (hl : ∀ w : World, (Instr.lookup 53 (.map (some w.heap.size)) (.int .i64 op) true).run Try.prog (w.alloc (tblObj rulT)) = .ok (.tuple #[.func (.func f) #[] #[], .bool true]) (w.alloc (tblObj rulT))) (h1 : Ivl a b) (h2 : Ivl c d) (hent : ∀ (args : Array Value) (w : World), (callFunc f args).run Try.prog w = .ok (Next.enter f args) w) (L H : Int) (hcall : ∀ w : World, Calls Try.prog f #[.agg #[.int .i64 a, .int .i64 b, .int .i64 c, .int .i64 d]] w fun x w' => x = .returned (.agg #[.int .i64 L, .int .i64 H]) ∧ Ext w w') (ka : (a == b) = true) (kd : (c == d) = false) (kc : (c == 0) = false) (w : World) : Calls Try.prog 10 #[.int .i64 op, .agg #[.int .i64 a, .int .i64 b], .agg #[.int .i64 c, .int .i64 d]] w fun x w' => x = .returned (.tuple #[.agg #[.int .i64 L, .int .i64 H], .int .i64 0]) ∧ Ext w w' := by
  have hl := hidden hl
  have hcall := hidden hcall
  have W0X : Blk ((((w.alloc (.cells #[.int .i64 a, .int .i64 b] 23)).alloc (.cells #[.int .i64 c, .int .i64 d] 23)).alloc (.cells #[.int .i64 0, .int .i64 0] 23)).alloc (.cells #[.int .i64 a, .int .i64 b, .int .i64 c, .int .i64 d] 23)) w.heap.size 23 [.int .i64 a, .int .i64 b] := by
    have := Blk.new (w) [.int .i64 a, .int .i64 b] 23
    exact ((this.alloc _).alloc _).alloc _
  have W0Y : Blk ((((w.alloc (.cells #[.int .i64 a, .int .i64 b] 23)).alloc (.cells #[.int .i64 c, .int .i64 d] 23)).alloc (.cells #[.int .i64 0, .int .i64 0] 23)).alloc (.cells #[.int .i64 a, .int .i64 b, .int .i64 c, .int .i64 d] 23)) (w.heap.size + 1) 23 [.int .i64 c, .int .i64 d] := by
    have := Blk.new (w.alloc (.cells #[.int .i64 a, .int .i64 b] 23)) [.int .i64 c, .int .i64 d] 23
    rw [World.size_alloc] at this
    exact (this.alloc _).alloc _
  have W0Z : Blk ((((w.alloc (.cells #[.int .i64 a, .int .i64 b] 23)).alloc (.cells #[.int .i64 c, .int .i64 d] 23)).alloc (.cells #[.int .i64 0, .int .i64 0] 23)).alloc (.cells #[.int .i64 a, .int .i64 b, .int .i64 c, .int .i64 d] 23)) (w.heap.size + 1 + 1) 23 [.int .i64 0, .int .i64 0] := by
    have := Blk.new ((w.alloc (.cells #[.int .i64 a, .int .i64 b] 23)).alloc (.cells #[.int .i64 c, .int .i64 d] 23)) [.int .i64 0, .int .i64 0] 23
    rw [World.size_alloc, World.size_alloc] at this
    exact this.alloc _
  have W0S : Blk ((((w.alloc (.cells #[.int .i64 a, .int .i64 b] 23)).alloc (.cells #[.int .i64 c, .int .i64 d] 23)).alloc (.cells #[.int .i64 0, .int .i64 0] 23)).alloc (.cells #[.int .i64 a, .int .i64 b, .int .i64 c, .int .i64 d] 23)) (w.heap.size + 1 + 1 + 1) 23 [.int .i64 a, .int .i64 b, .int .i64 c, .int .i64 d] := by
    have := Blk.new (((w.alloc (.cells #[.int .i64 a, .int .i64 b] 23)).alloc (.cells #[.int .i64 c, .int .i64 d] 23)).alloc (.cells #[.int .i64 0, .int .i64 0] 23)) [.int .i64 a, .int .i64 b, .int .i64 c, .int .i64 d] 23
    rw [World.size_alloc, World.size_alloc, World.size_alloc] at this
    exact this
  have hE0 : Ext w ((((w.alloc (.cells #[.int .i64 a, .int .i64 b] 23)).alloc (.cells #[.int .i64 c, .int .i64 d] 23)).alloc (.cells #[.int .i64 0, .int .i64 0] 23)).alloc (.cells #[.int .i64 a, .int .i64 b, .int .i64 c, .int .i64 d] 23)) := ((((Ext.refl w).alloc _).alloc _).alloc _).alloc _
  go_enter Try.func10, Try.ntmps10
  go_wp2_with fail
  obtain ⟨V0, hV0⟩ : ∃ V, (((w.alloc (.cells #[.int .i64 a, .int .i64 b] 23)).alloc (.cells #[.int .i64 c, .int .i64 d] 23)).alloc (.cells #[.int .i64 0, .int .i64 0] 23)).alloc (.cells #[.int .i64 a, .int .i64 b, .int .i64 c, .int .i64 d] 23) = V := ⟨_, rfl⟩
  rw [hV0] at W0X W0Y W0Z W0S hE0 ⊢
  clear hV0
  have qX0 := W0X.cell 0 _ rfl
  have qX1 := W0X.cell 1 _ rfl
  have lX := W0X.lt
  have qY0 := W0Y.cell 0 _ rfl
  have qY1 := W0Y.cell 1 _ rfl
  have lY := W0Y.lt
  have qZ0 := W0Z.cell 0 _ rfl
  have qZ1 := W0Z.cell 1 _ rfl
  have fZ0 := W0Z.frozen 0
  have fZ1 := W0Z.frozen 1
  have lZ := W0Z.lt
  have qS0 := W0S.cell 0 _ rfl
  have qS1 := W0S.cell 1 _ rfl
  have qS2 := W0S.cell 2 _ rfl
  have qS3 := W0S.cell 3 _ rfl
  have lS := W0S.lt
  refine wp_loop_rounds 3 ?_
  rw [rounds_succ]
  go_wp2_with fail
  refine (check_yes h1 _).mono ?_
  rintro e1 V1 ⟨rfl, g1⟩
  have hE1 := hE0.trans g1.past
  have W1X := W0X.ext g1.past
  have W1Y := W0Y.ext g1.past
  have W1Z := W0Z.ext g1.past
  have W1S := W0S.ext g1.past
  clear W0X W0Y W0Z W0S hE0 g1
  clear qX0 qX1 lX qY0 qY1 lY qZ0 qZ1 fZ0 fZ1 lZ qS0 qS1 qS2 qS3 lS
  have qX0 := W1X.cell 0 _ rfl
  have qX1 := W1X.cell 1 _ rfl
  have lX := W1X.lt
  have qY0 := W1Y.cell 0 _ rfl
  have qY1 := W1Y.cell 1 _ rfl
  have lY := W1Y.lt
  have qZ0 := W1Z.cell 0 _ rfl
  have qZ1 := W1Z.cell 1 _ rfl
  have fZ0 := W1Z.frozen 0
  have fZ1 := W1Z.frozen 1
  have lZ := W1Z.lt
  have qS0 := W1S.cell 0 _ rfl
  have qS1 := W1S.cell 1 _ rfl
  have qS2 := W1S.cell 2 _ rfl
  have qS3 := W1S.cell 3 _ rfl
  have lS := W1S.lt
  go_wp2_with fail
  rw [rounds_succ]
  go_wp2_with fail
  refine (check_yes h2 _).mono ?_
  rintro e2 V2 ⟨rfl, g2⟩
  have hE2 := hE1.trans g2.past
  have W2X := W1X.ext g2.past
  have W2Y := W1Y.ext g2.past
  have W2Z := W1Z.ext g2.past
  have W2S := W1S.ext g2.past
  clear W1X W1Y W1Z W1S hE1 g2
  clear qX0 qX1 lX qY0 qY1 lY qZ0 qZ1 fZ0 fZ1 lZ qS0 qS1 qS2 qS3 lS
  have qX0 := W2X.cell 0 _ rfl
  have qX1 := W2X.cell 1 _ rfl
  have lX := W2X.lt
  have qY0 := W2Y.cell 0 _ rfl
  have qY1 := W2Y.cell 1 _ rfl
  have lY := W2Y.lt
  have qZ0 := W2Z.cell 0 _ rfl
  have qZ1 := W2Z.cell 1 _ rfl
  have fZ0 := W2Z.frozen 0
  have fZ1 := W2Z.frozen 1
  have lZ := W2Z.lt
  have qS0 := W2S.cell 0 _ rfl
  have qS1 := W2S.cell 1 _ rfl
  have qS2 := W2S.cell 2 _ rfl
  have qS3 := W2S.cell 3 _ rfl
  have lS := W2S.lt
  go_wp2_with fail
  rw [rounds_succ]
  go_wp2_with fail
  refine (rules_any _).mono ?_
  rintro e3 w3 ⟨rfl, rfl⟩
  have hlk := hl.out V2
  have hE3 := hE2.alloc (tblObj rulT)
  have W3X := W2X.alloc (tblObj rulT)
  have W3Y := W2Y.alloc (tblObj rulT)
  have W3Z := W2Z.alloc (tblObj rulT)
  have W3S := W2S.alloc (tblObj rulT)
  clear W2X W2Y W2Z W2S hE2 hl
  clear qX0 qX1 lX qY0 qY1 lY qZ0 qZ1 fZ0 fZ1 lZ qS0 qS1 qS2 qS3 lS
  obtain ⟨V3, hV3⟩ : ∃ V, V2.alloc (tblObj rulT) = V := ⟨_, rfl⟩
  rw [hV3] at hlk hE3 W3X W3Y W3Z W3S ⊢
  clear hV3
  have qX0 := W3X.cell 0 _ rfl
  have qX1 := W3X.cell 1 _ rfl
  have lX := W3X.lt
  have qY0 := W3Y.cell 0 _ rfl
  have qY1 := W3Y.cell 1 _ rfl
  have lY := W3Y.lt
  have qZ0 := W3Z.cell 0 _ rfl
  have qZ1 := W3Z.cell 1 _ rfl
  have fZ0 := W3Z.frozen 0
  have fZ1 := W3Z.frozen 1
  have lZ := W3Z.lt
  have qS0 := W3S.cell 0 _ rfl
  have qS1 := W3S.cell 1 _ rfl
  have qS2 := W3S.cell 2 _ rfl
  have qS3 := W3S.cell 3 _ rfl
  have lS := W3S.lt
  go_wp2_with fail
  refine (hcall.out _).mono ?_
  rintro e4 V4 ⟨rfl, g4⟩
  have hE4 := hE3.trans g4
  have W4X := W3X.ext g4
  have W4Y := W3Y.ext g4
  have W4Z := W3Z.ext g4
  have W4S := W3S.ext g4
  clear W3X W3Y W3Z W3S hE3 g4
  clear qX0 qX1 lX qY0 qY1 lY qZ0 qZ1 fZ0 fZ1 lZ qS0 qS1 qS2 qS3 lS
  have qX0 := W4X.cell 0 _ rfl
  have qX1 := W4X.cell 1 _ rfl
  have lX := W4X.lt
  have qY0 := W4Y.cell 0 _ rfl
  have qY1 := W4Y.cell 1 _ rfl
  have lY := W4Y.lt
  have qZ0 := W4Z.cell 0 _ rfl
  have qZ1 := W4Z.cell 1 _ rfl
  have fZ0 := W4Z.frozen 0
  have fZ1 := W4Z.frozen 1
  have lZ := W4Z.lt
  have qS0 := W4S.cell 0 _ rfl
  have qS1 := W4S.cell 1 _ rfl
  have qS2 := W4S.cell 2 _ rfl
  have qS3 := W4S.cell 3 _ rfl
  have lS := W4S.lt
  go_wp2_with fail
  refine bodyPost_ret (v := .tuple #[.agg #[.int .i64 L, .int .i64 H], .int .i64 0]) (by simp [results, Try.results10, go_sem, *]) rfl ⟨rfl, ?_⟩
  repeat' (first | exact Ext.refl _ | assumption | (with_reducible refine Ext.alloc ?_ _) | (with_reducible refine Ext.drew ?_) | (with_reducible refine Ext.drewN _ ?_) | (refine Ext.setCell ?_ (by first | exact Nat.le_refl _ | (simp; done) | (simp; omega) | omega) _) | (refine Ext.trans ?_ (by assumption)))
set_option maxHeartbeats 2000000 in
theorem iv_r3 (a b c d : Int) (op : Int) (f : Nat) (hl : ∀ w : World, (Instr.lookup 53 (.map (some w.heap.size)) (.int .i64 op) true).run Try.prog (w.alloc (tblObj rulT)) = .ok (.tuple #[.func (.func f) #[] #[], .bool true]) (w.alloc (tblObj rulT))) (h1 : Ivl a b) (h2 : Ivl c d) (hent : ∀ (args : Array Value) (w : World), (callFunc f args).run Try.prog w = .ok (Next.enter f args) w) (L H : Int) (hcall : ∀ w : World, Calls Try.prog f #[.agg #[.int .i64 a, .int .i64 b, .int .i64 c, .int .i64 d]] w fun x w' => x = .returned (.agg #[.int .i64 L, .int .i64 H]) ∧ Ext w w') (ka : (a == b) = false) (kc : (c == 0) = true) (k1 : (op == 11) = false) (k2 : (op == 12) = false) (w : World) : Calls Try.prog 10 #[.int .i64 op, .agg #[.int .i64 a, .int .i64 b], .agg #[.int .i64 c, .int .i64 d]] w fun x w' => x = .returned (.tuple #[.agg #[.int .i64 L, .int .i64 H], .int .i64 0]) ∧ Ext w w' := by
  have hl := hidden hl
  have hcall := hidden hcall
  have W0X : Blk ((((w.alloc (.cells #[.int .i64 a, .int .i64 b] 23)).alloc (.cells #[.int .i64 c, .int .i64 d] 23)).alloc (.cells #[.int .i64 0, .int .i64 0] 23)).alloc (.cells #[.int .i64 a, .int .i64 b, .int .i64 c, .int .i64 d] 23)) w.heap.size 23 [.int .i64 a, .int .i64 b] := by
    have := Blk.new (w) [.int .i64 a, .int .i64 b] 23
    exact ((this.alloc _).alloc _).alloc _
  have W0Y : Blk ((((w.alloc (.cells #[.int .i64 a, .int .i64 b] 23)).alloc (.cells #[.int .i64 c, .int .i64 d] 23)).alloc (.cells #[.int .i64 0, .int .i64 0] 23)).alloc (.cells #[.int .i64 a, .int .i64 b, .int .i64 c, .int .i64 d] 23)) (w.heap.size + 1) 23 [.int .i64 c, .int .i64 d] := by
    have := Blk.new (w.alloc (.cells #[.int .i64 a, .int .i64 b] 23)) [.int .i64 c, .int .i64 d] 23
    rw [World.size_alloc] at this
    exact (this.alloc _).alloc _
  have W0Z : Blk ((((w.alloc (.cells #[.int .i64 a, .int .i64 b] 23)).alloc (.cells #[.int .i64 c, .int .i64 d] 23)).alloc (.cells #[.int .i64 0, .int .i64 0] 23)).alloc (.cells #[.int .i64 a, .int .i64 b, .int .i64 c, .int .i64 d] 23)) (w.heap.size + 1 + 1) 23 [.int .i64 0, .int .i64 0] := by
    have := Blk.new ((w.alloc (.cells #[.int .i64 a, .int .i64 b] 23)).alloc (.cells #[.int .i64 c, .int .i64 d] 23)) [.int .i64 0, .int .i64 0] 23
    rw [World.size_alloc, World.size_alloc] at this
    exact this.alloc _
  have W0S : Blk ((((w.alloc (.cells #[.int .i64 a, .int .i64 b] 23)).alloc (.cells #[.int .i64 c, .int .i64 d] 23)).alloc (.cells #[.int .i64 0, .int .i64 0] 23)).alloc (.cells #[.int .i64 a, .int .i64 b, .int .i64 c, .int .i64 d] 23)) (w.heap.size + 1 + 1 + 1) 23 [.int .i64 a, .int .i64 b, .int .i64 c, .int .i64 d] := by
    have := Blk.new (((w.alloc (.cells #[.int .i64 a, .int .i64 b] 23)).alloc (.cells #[.int .i64 c, .int .i64 d] 23)).alloc (.cells #[.int .i64 0, .int .i64 0] 23)) [.int .i64 a, .int .i64 b, .int .i64 c, .int .i64 d] 23
    rw [World.size_alloc, World.size_alloc, World.size_alloc] at this
    exact this
  have hE0 : Ext w ((((w.alloc (.cells #[.int .i64 a, .int .i64 b] 23)).alloc (.cells #[.int .i64 c, .int .i64 d] 23)).alloc (.cells #[.int .i64 0, .int .i64 0] 23)).alloc (.cells #[.int .i64 a, .int .i64 b, .int .i64 c, .int .i64 d] 23)) := ((((Ext.refl w).alloc _).alloc _).alloc _).alloc _
  go_enter Try.func10, Try.ntmps10
  go_wp2_with fail
  obtain ⟨V0, hV0⟩ : ∃ V, (((w.alloc (.cells #[.int .i64 a, .int .i64 b] 23)).alloc (.cells #[.int .i64 c, .int .i64 d] 23)).alloc (.cells #[.int .i64 0, .int .i64 0] 23)).alloc (.cells #[.int .i64 a, .int .i64 b, .int .i64 c, .int .i64 d] 23) = V := ⟨_, rfl⟩
  rw [hV0] at W0X W0Y W0Z W0S hE0 ⊢
  clear hV0
  have qX0 := W0X.cell 0 _ rfl
  have qX1 := W0X.cell 1 _ rfl
  have lX := W0X.lt
  have qY0 := W0Y.cell 0 _ rfl
  have qY1 := W0Y.cell 1 _ rfl
  have lY := W0Y.lt
  have qZ0 := W0Z.cell 0 _ rfl
  have qZ1 := W0Z.cell 1 _ rfl
  have fZ0 := W0Z.frozen 0
  have fZ1 := W0Z.frozen 1
  have lZ := W0Z.lt
  have qS0 := W0S.cell 0 _ rfl
  have qS1 := W0S.cell 1 _ rfl
  have qS2 := W0S.cell 2 _ rfl
  have qS3 := W0S.cell 3 _ rfl
  have lS := W0S.lt
  refine wp_loop_rounds 3 ?_
  rw [rounds_succ]
  go_wp2_with fail
  refine (check_yes h1 _).mono ?_
  rintro e1 V1 ⟨rfl, g1⟩
  have hE1 := hE0.trans g1.past
  have W1X := W0X.ext g1.past
  have W1Y := W0Y.ext g1.past
  have W1Z := W0Z.ext g1.past
  have W1S := W0S.ext g1.past
  clear W0X W0Y W0Z W0S hE0 g1
  clear qX0 qX1 lX qY0 qY1 lY qZ0 qZ1 fZ0 fZ1 lZ qS0 qS1 qS2 qS3 lS
  have qX0 := W1X.cell 0 _ rfl
  have qX1 := W1X.cell 1 _ rfl
  have lX := W1X.lt
  have qY0 := W1Y.cell 0 _ rfl
  have qY1 := W1Y.cell 1 _ rfl
  have lY := W1Y.lt
  have qZ0 := W1Z.cell 0 _ rfl
  have qZ1 := W1Z.cell 1 _ rfl
  have fZ0 := W1Z.frozen 0
  have fZ1 := W1Z.frozen 1
  have lZ := W1Z.lt
  have qS0 := W1S.cell 0 _ rfl
  have qS1 := W1S.cell 1 _ rfl
  have qS2 := W1S.cell 2 _ rfl
  have qS3 := W1S.cell 3 _ rfl
  have lS := W1S.lt
  go_wp2_with fail
  rw [rounds_succ]
  go_wp2_with fail
  refine (check_yes h2 _).mono ?_
  rintro e2 V2 ⟨rfl, g2⟩
  have hE2 := hE1.trans g2.past
  have W2X := W1X.ext g2.past
  have W2Y := W1Y.ext g2.past
  have W2Z := W1Z.ext g2.past
  have W2S := W1S.ext g2.past
  clear W1X W1Y W1Z W1S hE1 g2
  clear qX0 qX1 lX qY0 qY1 lY qZ0 qZ1 fZ0 fZ1 lZ qS0 qS1 qS2 qS3 lS
  have qX0 := W2X.cell 0 _ rfl
  have qX1 := W2X.cell 1 _ rfl
  have lX := W2X.lt
  have qY0 := W2Y.cell 0 _ rfl
  have qY1 := W2Y.cell 1 _ rfl
  have lY := W2Y.lt
  have qZ0 := W2Z.cell 0 _ rfl
  have qZ1 := W2Z.cell 1 _ rfl
  have fZ0 := W2Z.frozen 0
  have fZ1 := W2Z.frozen 1
  have lZ := W2Z.lt
  have qS0 := W2S.cell 0 _ rfl
  have qS1 := W2S.cell 1 _ rfl
  have qS2 := W2S.cell 2 _ rfl
  have qS3 := W2S.cell 3 _ rfl
  have lS := W2S.lt
  go_wp2_with fail
  rw [rounds_succ]
  go_wp2_with fail
  refine (rules_any _).mono ?_
  rintro e3 w3 ⟨rfl, rfl⟩
  have hlk := hl.out V2
  have hE3 := hE2.alloc (tblObj rulT)
  have W3X := W2X.alloc (tblObj rulT)
  have W3Y := W2Y.alloc (tblObj rulT)
  have W3Z := W2Z.alloc (tblObj rulT)
  have W3S := W2S.alloc (tblObj rulT)
  clear W2X W2Y W2Z W2S hE2 hl
  clear qX0 qX1 lX qY0 qY1 lY qZ0 qZ1 fZ0 fZ1 lZ qS0 qS1 qS2 qS3 lS
  obtain ⟨V3, hV3⟩ : ∃ V, V2.alloc (tblObj rulT) = V := ⟨_, rfl⟩
  rw [hV3] at hlk hE3 W3X W3Y W3Z W3S ⊢
  clear hV3
  have qX0 := W3X.cell 0 _ rfl
  have qX1 := W3X.cell 1 _ rfl
  have lX := W3X.lt
  have qY0 := W3Y.cell 0 _ rfl
  have qY1 := W3Y.cell 1 _ rfl
  have lY := W3Y.lt
  have qZ0 := W3Z.cell 0 _ rfl
  have qZ1 := W3Z.cell 1 _ rfl
  have fZ0 := W3Z.frozen 0
  have fZ1 := W3Z.frozen 1
  have lZ := W3Z.lt
  have qS0 := W3S.cell 0 _ rfl
  have qS1 := W3S.cell 1 _ rfl
  have qS2 := W3S.cell 2 _ rfl
  have qS3 := W3S.cell 3 _ rfl
  have lS := W3S.lt
  go_wp2_with fail
  refine (hcall.out _).mono ?_
  rintro e4 V4 ⟨rfl, g4⟩
  have hE4 := hE3.trans g4
  have W4X := W3X.ext g4
  have W4Y := W3Y.ext g4
  have W4Z := W3Z.ext g4
  have W4S := W3S.ext g4
  clear W3X W3Y W3Z W3S hE3 g4
  clear qX0 qX1 lX qY0 qY1 lY qZ0 qZ1 fZ0 fZ1 lZ qS0 qS1 qS2 qS3 lS
  have qX0 := W4X.cell 0 _ rfl
  have qX1 := W4X.cell 1 _ rfl
  have lX := W4X.lt
  have qY0 := W4Y.cell 0 _ rfl
  have qY1 := W4Y.cell 1 _ rfl
  have lY := W4Y.lt
  have qZ0 := W4Z.cell 0 _ rfl
  have qZ1 := W4Z.cell 1 _ rfl
  have fZ0 := W4Z.frozen 0
  have fZ1 := W4Z.frozen 1
  have lZ := W4Z.lt
  have qS0 := W4S.cell 0 _ rfl
  have qS1 := W4S.cell 1 _ rfl
  have qS2 := W4S.cell 2 _ rfl
  have qS3 := W4S.cell 3 _ rfl
  have lS := W4S.lt
  go_wp2_with fail
  refine bodyPost_ret (v := .tuple #[.agg #[.int .i64 L, .int .i64 H], .int .i64 0]) (by simp [results, Try.results10, go_sem, *]) rfl ⟨rfl, ?_⟩
  repeat' (first | exact Ext.refl _ | assumption | (with_reducible refine Ext.alloc ?_ _) | (with_reducible refine Ext.drew ?_) | (with_reducible refine Ext.drewN _ ?_) | (refine Ext.setCell ?_ (by first | exact Nat.le_refl _ | (simp; done) | (simp; omega) | omega) _) | (refine Ext.trans ?_ (by assumption)))
set_option maxHeartbeats 2000000 in
theorem iv_r4 (a b c d : Int) (op : Int) (f : Nat) (hl : ∀ w : World, (Instr.lookup 53 (.map (some w.heap.size)) (.int .i64 op) true).run Try.prog (w.alloc (tblObj rulT)) = .ok (.tuple #[.func (.func f) #[] #[], .bool true]) (w.alloc (tblObj rulT))) (h1 : Ivl a b) (h2 : Ivl c d) (hent : ∀ (args : Array Value) (w : World), (callFunc f args).run Try.prog w = .ok (Next.enter f args) w) (L H : Int) (hcall : ∀ w : World, Calls Try.prog f #[.agg #[.int .i64 a, .int .i64 b, .int .i64 c, .int .i64 d]] w fun x w' => x = .returned (.agg #[.int .i64 L, .int .i64 H]) ∧ Ext w w') (ka : (a == b) = true) (kd : (c == d) = false) (kc : (c == 0) = true) (k1 : (op == 11) = false) (k2 : (op == 12) = false) (w : World) : Calls Try.prog 10 #[.int .i64 op, .agg #[.int .i64 a, .int .i64 b], .agg #[.int .i64 c, .int .i64 d]] w fun x w' => x = .returned (.tuple #[.agg #[.int .i64 L, .int .i64 H], .int .i64 0]) ∧ Ext w w' := by
  have hl := hidden hl
  have hcall := hidden hcall
  have W0X : Blk ((((w.alloc (.cells #[.int .i64 a, .int .i64 b] 23)).alloc (.cells #[.int .i64 c, .int .i64 d] 23)).alloc (.cells #[.int .i64 0, .int .i64 0] 23)).alloc (.cells #[.int .i64 a, .int .i64 b, .int .i64 c, .int .i64 d] 23)) w.heap.size 23 [.int .i64 a, .int .i64 b] := by
    have := Blk.new (w) [.int .i64 a, .int .i64 b] 23
    exact ((this.alloc _).alloc _).alloc _
  have W0Y : Blk ((((w.alloc (.cells #[.int .i64 a, .int .i64 b] 23)).alloc (.cells #[.int .i64 c, .int .i64 d] 23)).alloc (.cells #[.int .i64 0, .int .i64 0] 23)).alloc (.cells #[.int .i64 a, .int .i64 b, .int .i64 c, .int .i64 d] 23)) (w.heap.size + 1) 23 [.int .i64 c, .int .i64 d] := by
    have := Blk.new (w.alloc (.cells #[.int .i64 a, .int .i64 b] 23)) [.int .i64 c, .int .i64 d] 23
    rw [World.size_alloc] at this
    exact (this.alloc _).alloc _
  have W0Z : Blk ((((w.alloc (.cells #[.int .i64 a, .int .i64 b] 23)).alloc (.cells #[.int .i64 c, .int .i64 d] 23)).alloc (.cells #[.int .i64 0, .int .i64 0] 23)).alloc (.cells #[.int .i64 a, .int .i64 b, .int .i64 c, .int .i64 d] 23)) (w.heap.size + 1 + 1) 23 [.int .i64 0, .int .i64 0] := by
    have := Blk.new ((w.alloc (.cells #[.int .i64 a, .int .i64 b] 23)).alloc (.cells #[.int .i64 c, .int .i64 d] 23)) [.int .i64 0, .int .i64 0] 23
    rw [World.size_alloc, World.size_alloc] at this
    exact this.alloc _
  have W0S : Blk ((((w.alloc (.cells #[.int .i64 a, .int .i64 b] 23)).alloc (.cells #[.int .i64 c, .int .i64 d] 23)).alloc (.cells #[.int .i64 0, .int .i64 0] 23)).alloc (.cells #[.int .i64 a, .int .i64 b, .int .i64 c, .int .i64 d] 23)) (w.heap.size + 1 + 1 + 1) 23 [.int .i64 a, .int .i64 b, .int .i64 c, .int .i64 d] := by
    have := Blk.new (((w.alloc (.cells #[.int .i64 a, .int .i64 b] 23)).alloc (.cells #[.int .i64 c, .int .i64 d] 23)).alloc (.cells #[.int .i64 0, .int .i64 0] 23)) [.int .i64 a, .int .i64 b, .int .i64 c, .int .i64 d] 23
    rw [World.size_alloc, World.size_alloc, World.size_alloc] at this
    exact this
  have hE0 : Ext w ((((w.alloc (.cells #[.int .i64 a, .int .i64 b] 23)).alloc (.cells #[.int .i64 c, .int .i64 d] 23)).alloc (.cells #[.int .i64 0, .int .i64 0] 23)).alloc (.cells #[.int .i64 a, .int .i64 b, .int .i64 c, .int .i64 d] 23)) := ((((Ext.refl w).alloc _).alloc _).alloc _).alloc _
  go_enter Try.func10, Try.ntmps10
  go_wp2_with fail
  obtain ⟨V0, hV0⟩ : ∃ V, (((w.alloc (.cells #[.int .i64 a, .int .i64 b] 23)).alloc (.cells #[.int .i64 c, .int .i64 d] 23)).alloc (.cells #[.int .i64 0, .int .i64 0] 23)).alloc (.cells #[.int .i64 a, .int .i64 b, .int .i64 c, .int .i64 d] 23) = V := ⟨_, rfl⟩
  rw [hV0] at W0X W0Y W0Z W0S hE0 ⊢
  clear hV0
  have qX0 := W0X.cell 0 _ rfl
  have qX1 := W0X.cell 1 _ rfl
  have lX := W0X.lt
  have qY0 := W0Y.cell 0 _ rfl
  have qY1 := W0Y.cell 1 _ rfl
  have lY := W0Y.lt
  have qZ0 := W0Z.cell 0 _ rfl
  have qZ1 := W0Z.cell 1 _ rfl
  have fZ0 := W0Z.frozen 0
  have fZ1 := W0Z.frozen 1
  have lZ := W0Z.lt
  have qS0 := W0S.cell 0 _ rfl
  have qS1 := W0S.cell 1 _ rfl
  have qS2 := W0S.cell 2 _ rfl
  have qS3 := W0S.cell 3 _ rfl
  have lS := W0S.lt
  refine wp_loop_rounds 3 ?_
  rw [rounds_succ]
  go_wp2_with fail
  refine (check_yes h1 _).mono ?_
  rintro e1 V1 ⟨rfl, g1⟩
  have hE1 := hE0.trans g1.past
  have W1X := W0X.ext g1.past
  have W1Y := W0Y.ext g1.past
  have W1Z := W0Z.ext g1.past
  have W1S := W0S.ext g1.past
  clear W0X W0Y W0Z W0S hE0 g1
  clear qX0 qX1 lX qY0 qY1 lY qZ0 qZ1 fZ0 fZ1 lZ qS0 qS1 qS2 qS3 lS
  have qX0 := W1X.cell 0 _ rfl
  have qX1 := W1X.cell 1 _ rfl
  have lX := W1X.lt
  have qY0 := W1Y.cell 0 _ rfl
  have qY1 := W1Y.cell 1 _ rfl
  have lY := W1Y.lt
  have qZ0 := W1Z.cell 0 _ rfl
  have qZ1 := W1Z.cell 1 _ rfl
  have fZ0 := W1Z.frozen 0
  have fZ1 := W1Z.frozen 1
  have lZ := W1Z.lt
  have qS0 := W1S.cell 0 _ rfl
  have qS1 := W1S.cell 1 _ rfl
  have qS2 := W1S.cell 2 _ rfl
  have qS3 := W1S.cell 3 _ rfl
  have lS := W1S.lt
  go_wp2_with fail
  rw [rounds_succ]
  go_wp2_with fail
  refine (check_yes h2 _).mono ?_
  rintro e2 V2 ⟨rfl, g2⟩
  have hE2 := hE1.trans g2.past
  have W2X := W1X.ext g2.past
  have W2Y := W1Y.ext g2.past
  have W2Z := W1Z.ext g2.past
  have W2S := W1S.ext g2.past
  clear W1X W1Y W1Z W1S hE1 g2
  clear qX0 qX1 lX qY0 qY1 lY qZ0 qZ1 fZ0 fZ1 lZ qS0 qS1 qS2 qS3 lS
  have qX0 := W2X.cell 0 _ rfl
  have qX1 := W2X.cell 1 _ rfl
  have lX := W2X.lt
  have qY0 := W2Y.cell 0 _ rfl
  have qY1 := W2Y.cell 1 _ rfl
  have lY := W2Y.lt
  have qZ0 := W2Z.cell 0 _ rfl
  have qZ1 := W2Z.cell 1 _ rfl
  have fZ0 := W2Z.frozen 0
  have fZ1 := W2Z.frozen 1
  have lZ := W2Z.lt
  have qS0 := W2S.cell 0 _ rfl
  have qS1 := W2S.cell 1 _ rfl
  have qS2 := W2S.cell 2 _ rfl
  have qS3 := W2S.cell 3 _ rfl
  have lS := W2S.lt
  go_wp2_with fail
  rw [rounds_succ]
  go_wp2_with fail
  refine (rules_any _).mono ?_
  rintro e3 w3 ⟨rfl, rfl⟩
  have hlk := hl.out V2
  have hE3 := hE2.alloc (tblObj rulT)
  have W3X := W2X.alloc (tblObj rulT)
  have W3Y := W2Y.alloc (tblObj rulT)
  have W3Z := W2Z.alloc (tblObj rulT)
  have W3S := W2S.alloc (tblObj rulT)
  clear W2X W2Y W2Z W2S hE2 hl
  clear qX0 qX1 lX qY0 qY1 lY qZ0 qZ1 fZ0 fZ1 lZ qS0 qS1 qS2 qS3 lS
  obtain ⟨V3, hV3⟩ : ∃ V, V2.alloc (tblObj rulT) = V := ⟨_, rfl⟩
  rw [hV3] at hlk hE3 W3X W3Y W3Z W3S ⊢
  clear hV3
  have qX0 := W3X.cell 0 _ rfl
  have qX1 := W3X.cell 1 _ rfl
  have lX := W3X.lt
  have qY0 := W3Y.cell 0 _ rfl
  have qY1 := W3Y.cell 1 _ rfl
  have lY := W3Y.lt
  have qZ0 := W3Z.cell 0 _ rfl
  have qZ1 := W3Z.cell 1 _ rfl
  have fZ0 := W3Z.frozen 0
  have fZ1 := W3Z.frozen 1
  have lZ := W3Z.lt
  have qS0 := W3S.cell 0 _ rfl
  have qS1 := W3S.cell 1 _ rfl
  have qS2 := W3S.cell 2 _ rfl
  have qS3 := W3S.cell 3 _ rfl
  have lS := W3S.lt
  go_wp2_with fail
  refine (hcall.out _).mono ?_
  rintro e4 V4 ⟨rfl, g4⟩
  have hE4 := hE3.trans g4
  have W4X := W3X.ext g4
  have W4Y := W3Y.ext g4
  have W4Z := W3Z.ext g4
  have W4S := W3S.ext g4
  clear W3X W3Y W3Z W3S hE3 g4
  clear qX0 qX1 lX qY0 qY1 lY qZ0 qZ1 fZ0 fZ1 lZ qS0 qS1 qS2 qS3 lS
  have qX0 := W4X.cell 0 _ rfl
  have qX1 := W4X.cell 1 _ rfl
  have lX := W4X.lt
  have qY0 := W4Y.cell 0 _ rfl
  have qY1 := W4Y.cell 1 _ rfl
  have lY := W4Y.lt
  have qZ0 := W4Z.cell 0 _ rfl
  have qZ1 := W4Z.cell 1 _ rfl
  have fZ0 := W4Z.frozen 0
  have fZ1 := W4Z.frozen 1
  have lZ := W4Z.lt
  have qS0 := W4S.cell 0 _ rfl
  have qS1 := W4S.cell 1 _ rfl
  have qS2 := W4S.cell 2 _ rfl
  have qS3 := W4S.cell 3 _ rfl
  have lS := W4S.lt
  go_wp2_with fail
  refine bodyPost_ret (v := .tuple #[.agg #[.int .i64 L, .int .i64 H], .int .i64 0]) (by simp [results, Try.results10, go_sem, *]) rfl ⟨rfl, ?_⟩
  repeat' (first | exact Ext.refl _ | assumption | (with_reducible refine Ext.alloc ?_ _) | (with_reducible refine Ext.drew ?_) | (with_reducible refine Ext.drewN _ ?_) | (refine Ext.setCell ?_ (by first | exact Nat.le_refl _ | (simp; done) | (simp; omega) | omega) _) | (refine Ext.trans ?_ (by assumption)))
end Go.Proofs.Ytbpnagamcohlnaa
