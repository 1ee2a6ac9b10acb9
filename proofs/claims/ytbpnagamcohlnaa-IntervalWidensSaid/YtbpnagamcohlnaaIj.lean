/- Join and Widen of layer 19. -/
import Derived.Test.YtbpnagamcohlnaaIi
namespace Go.Proofs.Ytbpnagamcohlnaa
open Go.RowKit
set_option linter.unusedVariables false


theorem ret_iv {a b c d : Int} (h : a = c) (k : b = d) : Ending.returned (.agg #[.int .i64 a, .int .i64 b]) = .returned (.agg #[.int .i64 c, .int .i64 d]) := by rw [h, k]
theorem join_any (a b c d : Int) (w : World) : Calls Try.prog 27 #[.agg #[.int .i64 a, .int .i64 b], .agg #[.int .i64 c, .int .i64 d]] w fun x w' => x = .returned (.agg #[.int .i64 (joinL a b c d), .int .i64 (joinH a b c d)]) ∧ Ext w w' := by
  by_cases h1 : Ivl a b
  · by_cases h2 : Ivl c d
    · have h0 := (ord_iff a b c d).2 ⟨h1, h2⟩
      rw [show joinL a b c d = min a c by simp [joinL, h0], show joinH a b c d = max b d by simp [joinH, h0]]
      clear h0
      go_enter Try.func27, Try.ntmps27
      go_wp2_with fail
      refine (ordered_yes h1 h2 _).mono ?_
      rintro e1 w1 ⟨rfl, hE1⟩
      obtain ⟨hc1, hf1⟩ := Ext.rules hE1
      have hz1 := hE1.size
      try simp at hz1
      try have hl1 : w.heap.size < w1.heap.size := by omega
      try have hm1 : w.heap.size + 1 < w1.heap.size := by omega
      try have hk1 : w.heap.size + 1 + 1 < w1.heap.size := by omega
      go_wp2_with fail
      all_goals
        refine bodyPost_ret (v := .agg #[_, _]) (by simp [results, Try.results27, go_sem, *]; exact ⟨rfl, rfl⟩) rfl ⟨ret_iv (by omega) (by omega), ?_⟩
        repeat' (first | exact Ext.refl _ | assumption | (with_reducible refine Ext.alloc ?_ _) | (with_reducible refine Ext.drew ?_) | (with_reducible refine Ext.drewN _ ?_) | (refine Ext.setCell ?_ (by first | exact Nat.le_refl _ | (simp; done) | (simp; omega) | omega) _) | (refine Ext.trans ?_ (by assumption)))
    · have h0 := ord_false (a := a) (b := b) (c := c) (d := d) (Or.inr h2)
      rw [show joinL a b c d = 0 by simp [joinL, h0], show joinH a b c d = 0 by simp [joinH, h0]]
      clear h0
      go_enter Try.func27, Try.ntmps27
      go_wp2_with fail
      refine (ordered_no (Or.inr h2) _).mono ?_
      rintro e1 w1 ⟨rfl, hE1⟩
      obtain ⟨hc1, hf1⟩ := Ext.rules hE1
      have hz1 := hE1.size
      try simp at hz1
      try have hl1 : w.heap.size < w1.heap.size := by omega
      try have hm1 : w.heap.size + 1 < w1.heap.size := by omega
      try have hk1 : w.heap.size + 1 + 1 < w1.heap.size := by omega
      go_wp2_with fail
      refine bodyPost_ret (v := .agg #[.int .i64 0, .int .i64 0]) (by simp [results, Try.results27, go_sem, *]) rfl ⟨rfl, ?_⟩
      repeat' (first | exact Ext.refl _ | assumption | (with_reducible refine Ext.alloc ?_ _) | (with_reducible refine Ext.drew ?_) | (with_reducible refine Ext.drewN _ ?_) | (refine Ext.setCell ?_ (by first | exact Nat.le_refl _ | (simp; done) | (simp; omega) | omega) _) | (refine Ext.trans ?_ (by assumption)))
  · have h0 := ord_false (a := a) (b := b) (c := c) (d := d) (Or.inl h1)
    rw [show joinL a b c d = 0 by simp [joinL, h0], show joinH a b c d = 0 by simp [joinH, h0]]
    clear h0
    go_enter Try.func27, Try.ntmps27
    go_wp2_with fail
    refine (ordered_no (Or.inl h1) _).mono ?_
    rintro e1 w1 ⟨rfl, hE1⟩
    obtain ⟨hc1, hf1⟩ := Ext.rules hE1
    have hz1 := hE1.size
    try simp at hz1
    try have hl1 : w.heap.size < w1.heap.size := by omega
    try have hm1 : w.heap.size + 1 < w1.heap.size := by omega
    try have hk1 : w.heap.size + 1 + 1 < w1.heap.size := by omega
    go_wp2_with fail
    refine bodyPost_ret (v := .agg #[.int .i64 0, .int .i64 0]) (by simp [results, Try.results27, go_sem, *]) rfl ⟨rfl, ?_⟩
    repeat' (first | exact Ext.refl _ | assumption | (with_reducible refine Ext.alloc ?_ _) | (with_reducible refine Ext.drew ?_) | (with_reducible refine Ext.drewN _ ?_) | (refine Ext.setCell ?_ (by first | exact Nat.le_refl _ | (simp; done) | (simp; omega) | omega) _) | (refine Ext.trans ?_ (by assumption)))
theorem rjoin_any (a b c d : Int) (w : World) : Calls Try.prog 28 #[.agg #[.int .i64 a, .int .i64 b], .agg #[.int .i64 c, .int .i64 d]] w fun x w' => x = .returned (.agg #[.int .i64 (joinL a b c d), .int .i64 (joinH a b c d)]) ∧ Ext w w' := by
  by_cases h1 : Ivl a b
  · by_cases h2 : Ivl c d
    · have h0 := (ord_iff a b c d).2 ⟨h1, h2⟩
      rw [show joinL a b c d = min a c by simp [joinL, h0], show joinH a b c d = max b d by simp [joinH, h0]]
      clear h0
      go_enter Try.func28, Try.ntmps28
      go_wp2_with fail
      refine (rcheck_yes h1 _).mono ?_
      rintro e1 w1 ⟨rfl, hE1⟩
      obtain ⟨hc1, hf1⟩ := Ext.rules hE1
      have hz1 := hE1.size
      try simp at hz1
      try have hl1 : w.heap.size < w1.heap.size := by omega
      try have hm1 : w.heap.size + 1 < w1.heap.size := by omega
      try have hk1 : w.heap.size + 1 + 1 < w1.heap.size := by omega
      go_wp2_with fail
      refine (rcheck_yes h2 _).mono ?_
      rintro e2 w2 ⟨rfl, hE2⟩
      obtain ⟨hc2, hf2⟩ := Ext.rules hE2
      have hz2 := hE2.size
      try simp at hz2
      try have hl2 : w.heap.size < w2.heap.size := by omega
      try have hm2 : w.heap.size + 1 < w2.heap.size := by omega
      try have hk2 : w.heap.size + 1 + 1 < w2.heap.size := by omega
      go_wp2_with fail
      all_goals
        refine bodyPost_ret (v := .agg #[_, _]) (by simp [results, Try.results28, go_sem, *]; exact ⟨rfl, rfl⟩) rfl ⟨ret_iv (by omega) (by omega), ?_⟩
        repeat' (first | exact Ext.refl _ | assumption | (with_reducible refine Ext.alloc ?_ _) | (with_reducible refine Ext.drew ?_) | (with_reducible refine Ext.drewN _ ?_) | (refine Ext.setCell ?_ (by first | exact Nat.le_refl _ | (simp; done) | (simp; omega) | omega) _) | (refine Ext.trans ?_ (by assumption)))
    · have h0 := ord_false (a := a) (b := b) (c := c) (d := d) (Or.inr h2)
      rw [show joinL a b c d = 0 by simp [joinL, h0], show joinH a b c d = 0 by simp [joinH, h0]]
      clear h0
      go_enter Try.func28, Try.ntmps28
      go_wp2_with fail
      refine (rcheck_yes h1 _).mono ?_
      rintro e1 w1 ⟨rfl, hE1⟩
      obtain ⟨hc1, hf1⟩ := Ext.rules hE1
      have hz1 := hE1.size
      try simp at hz1
      try have hl1 : w.heap.size < w1.heap.size := by omega
      try have hm1 : w.heap.size + 1 < w1.heap.size := by omega
      try have hk1 : w.heap.size + 1 + 1 < w1.heap.size := by omega
      go_wp2_with fail
      refine (rcheck_no h2 _).mono ?_
      rintro e2 w2 ⟨k2, kb2, kc2, kd2, rfl, hE2⟩
      obtain ⟨hc2, hf2⟩ := Ext.rules hE2
      have hz2 := hE2.size
      try simp at hz2
      clear kd2
      try have hl2 : w.heap.size < w2.heap.size := by omega
      try have hm2 : w.heap.size + 1 < w2.heap.size := by omega
      try have hk2 : w.heap.size + 1 + 1 < w2.heap.size := by omega
      go_wp2_with fail
      refine bodyPost_ret (v := .agg #[.int .i64 0, .int .i64 0]) (by simp [results, Try.results28, go_sem, *]) rfl ⟨rfl, ?_⟩
      repeat' (first | exact Ext.refl _ | assumption | (with_reducible refine Ext.alloc ?_ _) | (with_reducible refine Ext.drew ?_) | (with_reducible refine Ext.drewN _ ?_) | (refine Ext.setCell ?_ (by first | exact Nat.le_refl _ | (simp; done) | (simp; omega) | omega) _) | (refine Ext.trans ?_ (by assumption)))
  · have h0 := ord_false (a := a) (b := b) (c := c) (d := d) (Or.inl h1)
    rw [show joinL a b c d = 0 by simp [joinL, h0], show joinH a b c d = 0 by simp [joinH, h0]]
    clear h0
    go_enter Try.func28, Try.ntmps28
    go_wp2_with fail
    refine (rcheck_no h1 _).mono ?_
    rintro e1 w1 ⟨k1, kb1, kc1, kd1, rfl, hE1⟩
    obtain ⟨hc1, hf1⟩ := Ext.rules hE1
    have hz1 := hE1.size
    try simp at hz1
    clear kd1
    try have hl1 : w.heap.size < w1.heap.size := by omega
    try have hm1 : w.heap.size + 1 < w1.heap.size := by omega
    try have hk1 : w.heap.size + 1 + 1 < w1.heap.size := by omega
    go_wp2_with fail
    refine bodyPost_ret (v := .agg #[.int .i64 0, .int .i64 0]) (by simp [results, Try.results28, go_sem, *]) rfl ⟨rfl, ?_⟩
    repeat' (first | exact Ext.refl _ | assumption | (with_reducible refine Ext.alloc ?_ _) | (with_reducible refine Ext.drew ?_) | (with_reducible refine Ext.drewN _ ?_) | (refine Ext.setCell ?_ (by first | exact Nat.le_refl _ | (simp; done) | (simp; omega) | omega) _) | (refine Ext.trans ?_ (by assumption)))
end Go.Proofs.Ytbpnagamcohlnaa
