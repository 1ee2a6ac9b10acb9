/- The law's own functions, chapter 19. -/
import Derived.Test.YtbpnagamcohlnaaIu
import Derived.Test.YtbpnagamcohlnaaIy
import Derived.Deep.RegionHeld3
import Derived.Deep.CutRange
import Derived.Deep.DeepCutAuto
import Derived.Laws.StructEq
namespace Go.Proofs.Ytbpnagamcohlnaa
open Go.RowKit
set_option linter.unusedVariables false


theorem from_any (l h : Int) (w : World) : Calls Try.prog 14 #[.int .i64 l, .int .i64 h] w fun x w' => x = .returned (.agg #[.int .i64 l, .int .i64 h]) ∧ Ext w w' := by
  go_enter Try.func14, Try.ntmps14
  go_wp2_with fail
  refine bodyPost_ret (v := .agg #[.int .i64 l, .int .i64 h]) (by simp [results, Try.results14, go_sem]) rfl ⟨rfl, ?_⟩
  repeat' (first | exact Ext.refl _ | assumption | (with_reducible refine Ext.alloc ?_ _) | (with_reducible refine Ext.drew ?_) | (with_reducible refine Ext.drewN _ ?_) | (refine Ext.setCell ?_ (by first | exact Nat.le_refl _ | (simp; done) | (simp; omega) | omega) _) | (refine Ext.trans ?_ (by assumption)))
set_option maxHeartbeats 1000000 in
theorem is_yes (op a b c d e f : Int) (h : iaF op a b c d = (e, f, 0)) (w : World) : Calls Try.prog 33 #[.int .i64 op, .agg #[.int .i64 a, .int .i64 b], .agg #[.int .i64 c, .int .i64 d], .agg #[.int .i64 e, .int .i64 f]] w fun x w' => x = .returned (.bool true) ∧ Ext w w' := by
  have hc := ivapply_any op a b c d
  rw [h] at hc
  have hc := hidden hc
  clear h
  have W0Z : Blk (((w.alloc (.cells #[.int .i64 a, .int .i64 b] 23)).alloc (.cells #[.int .i64 c, .int .i64 d] 23)).alloc (.cells #[.int .i64 e, .int .i64 f] 23)) (w.heap.size + 1 + 1) 23 [.int .i64 e, .int .i64 f] := by
    have := Blk.new ((w.alloc (.cells #[.int .i64 a, .int .i64 b] 23)).alloc (.cells #[.int .i64 c, .int .i64 d] 23)) [.int .i64 e, .int .i64 f] 23
    rw [World.size_alloc, World.size_alloc] at this
    exact this
  go_enter Try.func33, Try.ntmps33
  go_wp2_with fail
  refine (hc.out _).mono ?_
  rintro e1 w1 ⟨rfl, hE1⟩
  have W1Z := W0Z.ext hE1
  have q0 := W1Z.cell 0 _ rfl
  have q1 := W1Z.cell 1 _ rfl
  have l1 := W1Z.lt
  go_wp2_with fail
  go_ret
  refine ⟨(by first | rfl | exact ret_bool (by simp [*])), ?_⟩
  repeat' (first | exact Ext.refl _ | assumption | (with_reducible refine Ext.alloc ?_ _) | (with_reducible refine Ext.drew ?_) | (with_reducible refine Ext.drewN _ ?_) | (refine Ext.setCell ?_ (by first | exact Nat.le_refl _ | (simp; done) | (simp; omega) | omega) _) | (refine Ext.trans ?_ (by assumption)))
set_option maxHeartbeats 1000000 in
theorem around_any (n dn up : Int) (n0 : 0 ≤ n) (n1 : n ≤ 4294967295) (d0 : 0 ≤ dn) (d1 : dn ≤ 4294967295) (u0 : 0 ≤ up) (u1 : up ≤ 4294967295) (w : World) :
    Calls Try.prog 13 #[.int .u32 n, .int .u32 dn, .int .u32 up] w fun x w' => x = .returned (.agg #[.int .i64 (max 0 (n - dn)), .int .i64 (min 4294967295 (n + up))]) ∧ Ext w w' := by
  go_enter Try.func13, Try.ntmps13
  go_wp2_with fail
  all_goals
    refine (from_any _ _ _).mono ?_
    rintro e1 w1 ⟨rfl, hE1⟩
    obtain ⟨hc1, hf1⟩ := Ext.rules hE1
    have hz1 := hE1.size
    try simp at hz1
    try have hl1 : w.heap.size < w1.heap.size := by omega
    try have hm1 : w.heap.size + 1 < w1.heap.size := by omega
    go_wp2_with fail
    refine bodyPost_ret (v := .agg #[_, _]) (by simp [results, Try.results13, go_sem, *]; exact ⟨rfl, rfl⟩) rfl ⟨ret_iv (by omega) (by omega), ?_⟩
    repeat' (first | exact Ext.refl _ | assumption | (with_reducible refine Ext.alloc ?_ _) | (with_reducible refine Ext.drew ?_) | (with_reducible refine Ext.drewN _ ?_) | (refine Ext.setCell ?_ (by first | exact Nat.le_refl _ | (simp; done) | (simp; omega) | omega) _) | (refine Ext.trans ?_ (by assumption)))
theorem widen_at (a b c d l h : Int) (hl : widL a b c d = l) (hh : widH a b c d = h) (w : World) : Calls Try.prog 17 #[.agg #[.int .i64 a, .int .i64 b], .agg #[.int .i64 c, .int .i64 d]] w fun x w' => x = .returned (.agg #[.int .i64 l, .int .i64 h]) ∧ Ext w w' := by
  have := widen_any a b c d w
  rw [hl, hh] at this
  exact this
set_option maxHeartbeats 2000000 in
theorem awake_any (w : World) : Calls Try.prog 12 #[] w fun x w' => x = .returned (.bool true) ∧ Ext w w' := by
  go_enter Try.func12, Try.ntmps12
  go_upto_region 7 with (first | (go_at_call 14; refine (from_any _ _ _).mono ?_; rintro e w1 ⟨rfl, hE⟩) | (go_at_call 33; refine (is_yes _ _ _ _ _ _ _ (by decide +kernel) _).mono ?_; rintro e w1 ⟨rfl, hE⟩) | (go_at_call 19; refine (full_any _).mono ?_; rintro e w1 ⟨rfl, hE⟩) | (go_at_call 17; refine (widen_at 0 0 0 3 0 255 (by decide +kernel) (by decide +kernel) _).mono ?_; rintro e w1 ⟨rfl, hE⟩))
  have hB := Blk.new w1 [.int .i64 0, .int .i64 255] 23
  have hX : Ext w (w1.alloc (.cells #[.int .i64 0, .int .i64 255] 23)) := by
    repeat' (first | exact Ext.refl _ | assumption | (with_reducible refine Ext.alloc ?_ _) | (with_reducible refine Ext.drew ?_) | (with_reducible refine Ext.drewN _ ?_) | (refine Ext.setCell ?_ (by first | exact Nat.le_refl _ | (simp; done) | (simp; omega) | omega) _) | (refine Ext.trans ?_ (by assumption)))
  obtain ⟨W, hW⟩ : ∃ W, w1.alloc (.cells #[.int .i64 0, .int .i64 255] 23) = W := ⟨_, rfl⟩
  obtain ⟨p, hp⟩ : ∃ p, w1.heap.size = p := ⟨_, rfl⟩
  have hB : Blk W w1.heap.size 23 [.int .i64 0, .int .i64 255] := hW ▸ hB
  have hX : Ext w W := hW ▸ hX
  rw [hW, hp]
  rw [hp] at hB
  clear hW hp
  have h0 := hB.cell 0 _ rfl
  have h1 := hB.cell 1 _ rfl
  go_region_held3 (fun w' => w'.cell? ⟨p, 0, none⟩ = some (.int .i64 0) ∧ w'.cell? ⟨p, 1, none⟩ = some (.int .i64 255)) (go_keep)
    (first | (go_at_call 14; refine (from_any _ _ _).mono ?_; rintro e w5 ⟨rfl, g5⟩; have gX : Ext W w5 := (by first | exact Ext.trans gX g5 | exact (Ext.trans gX g5.past) | exact g5.past_drew | exact g5.past_drew.past | exact g5); have j0 : w5.cell? ⟨p, 0, none⟩ = some (.int .i64 0) := gX.cell h0; have j1 : w5.cell? ⟨p, 1, none⟩ = some (.int .i64 255) := gX.cell h1) | (go_at_call 17; refine (widen_at 0 255 0 300 0 65535 (by decide +kernel) (by decide +kernel) _).mono ?_; rintro e w5 ⟨rfl, g5⟩; have gX : Ext W w5 := (by first | exact Ext.trans gX g5 | exact (Ext.trans gX g5.past) | exact g5.past_drew | exact g5.past_drew.past | exact g5); have j0 : w5.cell? ⟨p, 0, none⟩ = some (.int .i64 0) := gX.cell h0; have j1 : w5.cell? ⟨p, 1, none⟩ = some (.int .i64 255) := gX.cell h1))

  go_wp2_with fail
  go_ret
  exact ⟨rfl, hX.trans gX⟩
end Go.Proofs.Ytbpnagamcohlnaa
