/- The small functions of layer 19. -/
import Derived.Test.YtbpnagamcohlnaaRows
import Derived.Test.YtbpnagamcohlnaaIh
import Derived.Test.YtbpnagamcohlnaaM
import Derived.Test.YtbpnagamcohlnaaMb
import Derived.Deep.QuietTactic
import Derived.BigQuiet
import Derived.Outline
namespace Go.Proofs.Ytbpnagamcohlnaa
open Go.RowKit
set_option linter.unusedVariables false


theorem check_any (l h : Int) (w : World) : Calls Try.prog 16 #[.agg #[.int .i64 l, .int .i64 h]] w fun x w' => x = .returned (.int .i64 (chk l h)) ∧ Ext w w' := by
  by_cases k1 : l < 0
  · rw [chk_range (by omega)]
    go_enter Try.func16, Try.ntmps16
    go_wp2_with fail
    go_ret
    exact ⟨rfl, (Ext.refl _).alloc _⟩
  by_cases k2 : 4294967295 < l
  · rw [chk_range (by omega)]
    go_enter Try.func16, Try.ntmps16
    go_wp2_with fail
    go_ret
    exact ⟨rfl, (Ext.refl _).alloc _⟩
  by_cases k3 : h < 0
  · rw [chk_range (by omega)]
    go_enter Try.func16, Try.ntmps16
    go_wp2_with fail
    go_ret
    exact ⟨rfl, (Ext.refl _).alloc _⟩
  by_cases k4 : 4294967295 < h
  · rw [chk_range (by omega)]
    go_enter Try.func16, Try.ntmps16
    go_wp2_with fail
    go_ret
    exact ⟨rfl, (Ext.refl _).alloc _⟩
  by_cases k5 : h < l
  · rw [chk_order (by omega) k5]
    go_enter Try.func16, Try.ntmps16
    go_wp2_with fail
    go_ret
    exact ⟨rfl, (Ext.refl _).alloc _⟩
  · rw [chk_ok (by unfold Ivl; omega)]
    go_enter Try.func16, Try.ntmps16
    go_wp2_with fail
    go_ret
    exact ⟨rfl, (Ext.refl _).alloc _⟩
theorem full_any (w : World) : Calls Try.prog 19 #[] w fun x w' => x = .returned (.agg #[.int .i64 0, .int .i64 4294967295]) ∧ Ext w w' := by
  go_enter Try.func19, Try.ntmps19
  go_wp2_with fail
  refine bodyPost_ret (v := .agg #[.int .i64 0, .int .i64 4294967295]) (by simp [results, Try.results19, go_sem]) rfl ⟨rfl, ?_⟩
  repeat' (first | exact Ext.refl _ | assumption | (with_reducible refine Ext.alloc ?_ _) | (with_reducible refine Ext.drew ?_) | (with_reducible refine Ext.drewN _ ?_) | (refine Ext.setCell ?_ (by first | exact Nat.le_refl _ | (simp; done) | (simp; omega) | omega) _) | (refine Ext.trans ?_ (by assumption)))
theorem exact_any (n : Int) (h0 : 0 ≤ n) (h1 : n ≤ 4294967295) (w : World) : Calls Try.prog 21 #[.int .u32 n] w fun x w' => x = .returned (.agg #[.int .i64 n, .int .i64 n]) ∧ Ext w w' := by
  go_enter Try.func21, Try.ntmps21
  go_wp2_with fail
  refine bodyPost_ret (v := .agg #[.int .i64 n, .int .i64 n]) (by simp [results, Try.results21, go_sem]) rfl ⟨rfl, ?_⟩
  repeat' (first | exact Ext.refl _ | assumption | (with_reducible refine Ext.alloc ?_ _) | (with_reducible refine Ext.drew ?_) | (with_reducible refine Ext.drewN _ ?_) | (refine Ext.setCell ?_ (by first | exact Nat.le_refl _ | (simp; done) | (simp; omega) | omega) _) | (refine Ext.trans ?_ (by assumption)))
theorem rcheck_any (l h : Int) (w : World) : Calls Try.prog 18 #[.agg #[.int .i64 l, .int .i64 h]] w fun x w' => x = .returned (.int .i64 (chk l h)) ∧ Ext w w' := by
  by_cases k1 : l < 0
  · rw [chk_range (by omega)]
    go_enter Try.func18, Try.ntmps18
    go_wp2_with fail
    go_ret
    exact ⟨rfl, (Ext.refl _).alloc _⟩
  by_cases k2 : 4294967295 < l
  · rw [chk_range (by omega)]
    go_enter Try.func18, Try.ntmps18
    go_wp2_with fail
    go_ret
    exact ⟨rfl, (Ext.refl _).alloc _⟩
  by_cases k3 : h < 0
  · rw [chk_range (by omega)]
    go_enter Try.func18, Try.ntmps18
    go_wp2_with fail
    go_ret
    exact ⟨rfl, (Ext.refl _).alloc _⟩
  by_cases k4 : 4294967295 < h
  · rw [chk_range (by omega)]
    go_enter Try.func18, Try.ntmps18
    go_wp2_with fail
    go_ret
    exact ⟨rfl, (Ext.refl _).alloc _⟩
  by_cases k5 : h < l
  · rw [chk_order (by omega) k5]
    go_enter Try.func18, Try.ntmps18
    go_wp2_with fail
    go_ret
    exact ⟨rfl, (Ext.refl _).alloc _⟩
  · rw [chk_ok (by unfold Ivl; omega)]
    go_enter Try.func18, Try.ntmps18
    go_wp2_with fail
    go_ret
    exact ⟨rfl, (Ext.refl _).alloc _⟩
theorem rfull_any (w : World) : Calls Try.prog 20 #[] w fun x w' => x = .returned (.agg #[.int .i64 0, .int .i64 4294967295]) ∧ Ext w w' := by
  go_enter Try.func20, Try.ntmps20
  go_wp2_with fail
  refine bodyPost_ret (v := .agg #[.int .i64 0, .int .i64 4294967295]) (by simp [results, Try.results20, go_sem]) rfl ⟨rfl, ?_⟩
  repeat' (first | exact Ext.refl _ | assumption | (with_reducible refine Ext.alloc ?_ _) | (with_reducible refine Ext.drew ?_) | (with_reducible refine Ext.drewN _ ?_) | (refine Ext.setCell ?_ (by first | exact Nat.le_refl _ | (simp; done) | (simp; omega) | omega) _) | (refine Ext.trans ?_ (by assumption)))
theorem rexact_any (n : Int) (h0 : 0 ≤ n) (h1 : n ≤ 4294967295) (w : World) : Calls Try.prog 22 #[.int .u32 n] w fun x w' => x = .returned (.agg #[.int .i64 n, .int .i64 n]) ∧ Ext w w' := by
  go_enter Try.func22, Try.ntmps22
  go_wp2_with fail
  refine bodyPost_ret (v := .agg #[.int .i64 n, .int .i64 n]) (by simp [results, Try.results22, go_sem]) rfl ⟨rfl, ?_⟩
  repeat' (first | exact Ext.refl _ | assumption | (with_reducible refine Ext.alloc ?_ _) | (with_reducible refine Ext.drew ?_) | (with_reducible refine Ext.drewN _ ?_) | (refine Ext.setCell ?_ (by first | exact Nat.le_refl _ | (simp; done) | (simp; omega) | omega) _) | (refine Ext.trans ?_ (by assumption)))
theorem check_yes {l h : Int} (k : Ivl l h) (w : World) : Calls Try.prog 16 #[.agg #[.int .i64 l, .int .i64 h]] w fun x w' => x = .returned (.int .i64 0) ∧ Ext w w' := by
  have := check_any l h w
  rw [chk_ok k] at this
  exact this
theorem check_no {l h : Int} (k : ¬ Ivl l h) (w : World) : Calls Try.prog 16 #[.agg #[.int .i64 l, .int .i64 h]] w fun x w' => ∃ n : Int, (n == 0) = false ∧ (n != 0) = true ∧ n = chk l h ∧ x = .returned (.int .i64 n) ∧ Ext w w' := by
  have hn : chk l h ≠ 0 := fun e => k ((chk_iff l h).1 e)
  refine (check_any l h w).mono ?_
  rintro x w' ⟨rfl, hE⟩
  exact ⟨chk l h, by simp [hn], by simp [hn], rfl, rfl, hE⟩
theorem rcheck_yes {l h : Int} (k : Ivl l h) (w : World) : Calls Try.prog 18 #[.agg #[.int .i64 l, .int .i64 h]] w fun x w' => x = .returned (.int .i64 0) ∧ Ext w w' := by
  have := rcheck_any l h w
  rw [chk_ok k] at this
  exact this
theorem rcheck_no {l h : Int} (k : ¬ Ivl l h) (w : World) : Calls Try.prog 18 #[.agg #[.int .i64 l, .int .i64 h]] w fun x w' => ∃ n : Int, (n == 0) = false ∧ (n != 0) = true ∧ n = chk l h ∧ x = .returned (.int .i64 n) ∧ Ext w w' := by
  have hn : chk l h ≠ 0 := fun e => k ((chk_iff l h).1 e)
  refine (rcheck_any l h w).mono ?_
  rintro x w' ⟨rfl, hE⟩
  exact ⟨chk l h, by simp [hn], by simp [hn], rfl, rfl, hE⟩
theorem ordered_any (a b c d : Int) (w : World) : Calls Try.prog 34 #[.agg #[.int .i64 a, .int .i64 b], .agg #[.int .i64 c, .int .i64 d]] w fun x w' => x = .returned (.bool (ordB a b c d)) ∧ Ext w w' := by
  by_cases h1 : Ivl a b
  · by_cases h2 : Ivl c d
    · rw [(ord_iff a b c d).2 ⟨h1, h2⟩]
      go_enter Try.func34, Try.ntmps34
      go_wp2_with fail
      refine (check_yes h1 _).mono ?_
      rintro e1 w1 ⟨rfl, hE1⟩
      obtain ⟨hc1, hf1⟩ := Ext.rules hE1
      have hz1 := hE1.size
      try simp at hz1
      try have hl1 : w.heap.size < w1.heap.size := by omega
      try have hm1 : w.heap.size + 1 < w1.heap.size := by omega
      go_wp2_with fail
      refine (check_yes h2 _).mono ?_
      rintro e2 w2 ⟨rfl, hE2⟩
      obtain ⟨hc2, hf2⟩ := Ext.rules hE2
      have hz2 := hE2.size
      try simp at hz2
      try have hl2 : w.heap.size < w2.heap.size := by omega
      try have hm2 : w.heap.size + 1 < w2.heap.size := by omega
      go_wp2_with fail
      go_ret
      refine ⟨(by first | rfl | exact ret_bool (by simp [*])), ?_⟩
      repeat' (first | exact Ext.refl _ | assumption | (with_reducible refine Ext.alloc ?_ _) | (with_reducible refine Ext.drew ?_) | (with_reducible refine Ext.drewN _ ?_) | (refine Ext.setCell ?_ (by first | exact Nat.le_refl _ | (simp; done) | (simp; omega) | omega) _) | (refine Ext.trans ?_ (by assumption)))
    · rw [ord_false (Or.inr h2)]
      go_enter Try.func34, Try.ntmps34
      go_wp2_with fail
      refine (check_yes h1 _).mono ?_
      rintro e1 w1 ⟨rfl, hE1⟩
      obtain ⟨hc1, hf1⟩ := Ext.rules hE1
      have hz1 := hE1.size
      try simp at hz1
      try have hl1 : w.heap.size < w1.heap.size := by omega
      try have hm1 : w.heap.size + 1 < w1.heap.size := by omega
      go_wp2_with fail
      refine (check_no h2 _).mono ?_
      rintro e2 w2 ⟨k2, kb2, kc2, kd2, rfl, hE2⟩
      obtain ⟨hc2, hf2⟩ := Ext.rules hE2
      have hz2 := hE2.size
      try simp at hz2
      clear kd2
      try have hl2 : w.heap.size < w2.heap.size := by omega
      try have hm2 : w.heap.size + 1 < w2.heap.size := by omega
      go_wp2_with fail
      go_ret
      refine ⟨(by first | rfl | exact ret_bool (by simp [*])), ?_⟩
      repeat' (first | exact Ext.refl _ | assumption | (with_reducible refine Ext.alloc ?_ _) | (with_reducible refine Ext.drew ?_) | (with_reducible refine Ext.drewN _ ?_) | (refine Ext.setCell ?_ (by first | exact Nat.le_refl _ | (simp; done) | (simp; omega) | omega) _) | (refine Ext.trans ?_ (by assumption)))
  · rw [ord_false (Or.inl h1)]
    go_enter Try.func34, Try.ntmps34
    go_wp2_with fail
    refine (check_no h1 _).mono ?_
    rintro e1 w1 ⟨k1, kb1, kc1, kd1, rfl, hE1⟩
    obtain ⟨hc1, hf1⟩ := Ext.rules hE1
    have hz1 := hE1.size
    try simp at hz1
    clear kd1
    try have hl1 : w.heap.size < w1.heap.size := by omega
    try have hm1 : w.heap.size + 1 < w1.heap.size := by omega
    go_wp2_with fail
    go_ret
    refine ⟨(by first | rfl | exact ret_bool (by simp [*])), ?_⟩
    repeat' (first | exact Ext.refl _ | assumption | (with_reducible refine Ext.alloc ?_ _) | (with_reducible refine Ext.drew ?_) | (with_reducible refine Ext.drewN _ ?_) | (refine Ext.setCell ?_ (by first | exact Nat.le_refl _ | (simp; done) | (simp; omega) | omega) _) | (refine Ext.trans ?_ (by assumption)))
theorem ordered_yes {a b c d : Int} (h1 : Ivl a b) (h2 : Ivl c d) (w : World) : Calls Try.prog 34 #[.agg #[.int .i64 a, .int .i64 b], .agg #[.int .i64 c, .int .i64 d]] w fun x w' => x = .returned (.bool true) ∧ Ext w w' := by
  have := ordered_any a b c d w
  rw [(ord_iff a b c d).2 ⟨h1, h2⟩] at this
  exact this
theorem ordered_no {a b c d : Int} (h : ¬ Ivl a b ∨ ¬ Ivl c d) (w : World) : Calls Try.prog 34 #[.agg #[.int .i64 a, .int .i64 b], .agg #[.int .i64 c, .int .i64 d]] w fun x w' => x = .returned (.bool false) ∧ Ext w w' := by
  have := ordered_any a b c d w
  rw [ord_false h] at this
  exact this
theorem contains_any (a b n : Int) (n0 : 0 ≤ n) (n1 : n ≤ 4294967295) (w : World) : Calls Try.prog 23 #[.agg #[.int .i64 a, .int .i64 b], .int .u32 n] w fun x w' => x = .returned (.bool (conB a b n)) ∧ Ext w w' := by
  by_cases h1 : Ivl a b
  · by_cases h2 : a ≤ n
    · by_cases h3 : n ≤ b
      · rw [show conB a b n = true by simp [conB, h1, h2, h3]]
        go_enter Try.func23, Try.ntmps23
        go_wp2_with fail
        refine (check_yes h1 _).mono ?_
        rintro e1 w1 ⟨rfl, hE1⟩
        obtain ⟨hc1, hf1⟩ := Ext.rules hE1
        have hz1 := hE1.size
        try simp at hz1
        try have hl1 : w.heap.size < w1.heap.size := by omega
        try have hm1 : w.heap.size + 1 < w1.heap.size := by omega
        go_wp2_with fail
        go_ret
        refine ⟨(by first | rfl | exact ret_bool (by simp [*])), ?_⟩
        repeat' (first | exact Ext.refl _ | assumption | (with_reducible refine Ext.alloc ?_ _) | (with_reducible refine Ext.drew ?_) | (with_reducible refine Ext.drewN _ ?_) | (refine Ext.setCell ?_ (by first | exact Nat.le_refl _ | (simp; done) | (simp; omega) | omega) _) | (refine Ext.trans ?_ (by assumption)))
      · rw [show conB a b n = false by simp [conB, h3]]
        go_enter Try.func23, Try.ntmps23
        go_wp2_with fail
        refine (check_yes h1 _).mono ?_
        rintro e1 w1 ⟨rfl, hE1⟩
        obtain ⟨hc1, hf1⟩ := Ext.rules hE1
        have hz1 := hE1.size
        try simp at hz1
        try have hl1 : w.heap.size < w1.heap.size := by omega
        try have hm1 : w.heap.size + 1 < w1.heap.size := by omega
        go_wp2_with fail
        go_ret
        refine ⟨(by first | rfl | exact ret_bool (by simp [*])), ?_⟩
        repeat' (first | exact Ext.refl _ | assumption | (with_reducible refine Ext.alloc ?_ _) | (with_reducible refine Ext.drew ?_) | (with_reducible refine Ext.drewN _ ?_) | (refine Ext.setCell ?_ (by first | exact Nat.le_refl _ | (simp; done) | (simp; omega) | omega) _) | (refine Ext.trans ?_ (by assumption)))
    · rw [show conB a b n = false by simp [conB, h2]]
      go_enter Try.func23, Try.ntmps23
      go_wp2_with fail
      refine (check_yes h1 _).mono ?_
      rintro e1 w1 ⟨rfl, hE1⟩
      obtain ⟨hc1, hf1⟩ := Ext.rules hE1
      have hz1 := hE1.size
      try simp at hz1
      try have hl1 : w.heap.size < w1.heap.size := by omega
      try have hm1 : w.heap.size + 1 < w1.heap.size := by omega
      go_wp2_with fail
      go_ret
      refine ⟨(by first | rfl | exact ret_bool (by simp [*])), ?_⟩
      repeat' (first | exact Ext.refl _ | assumption | (with_reducible refine Ext.alloc ?_ _) | (with_reducible refine Ext.drew ?_) | (with_reducible refine Ext.drewN _ ?_) | (refine Ext.setCell ?_ (by first | exact Nat.le_refl _ | (simp; done) | (simp; omega) | omega) _) | (refine Ext.trans ?_ (by assumption)))
  · rw [show conB a b n = false by simp [conB, h1]]
    go_enter Try.func23, Try.ntmps23
    go_wp2_with fail
    refine (check_no h1 _).mono ?_
    rintro e1 w1 ⟨k1, kb1, kc1, kd1, rfl, hE1⟩
    obtain ⟨hc1, hf1⟩ := Ext.rules hE1
    have hz1 := hE1.size
    try simp at hz1
    clear kd1
    try have hl1 : w.heap.size < w1.heap.size := by omega
    try have hm1 : w.heap.size + 1 < w1.heap.size := by omega
    go_wp2_with fail
    go_ret
    refine ⟨(by first | rfl | exact ret_bool (by simp [*])), ?_⟩
    repeat' (first | exact Ext.refl _ | assumption | (with_reducible refine Ext.alloc ?_ _) | (with_reducible refine Ext.drew ?_) | (with_reducible refine Ext.drewN _ ?_) | (refine Ext.setCell ?_ (by first | exact Nat.le_refl _ | (simp; done) | (simp; omega) | omega) _) | (refine Ext.trans ?_ (by assumption)))
theorem rcontains_any (a b n : Int) (n0 : 0 ≤ n) (n1 : n ≤ 4294967295) (w : World) : Calls Try.prog 24 #[.agg #[.int .i64 a, .int .i64 b], .int .u32 n] w fun x w' => x = .returned (.bool (conB a b n)) ∧ Ext w w' := by
  by_cases h1 : Ivl a b
  · by_cases h2 : a ≤ n
    · by_cases h3 : n ≤ b
      · rw [show conB a b n = true by simp [conB, h1, h2, h3]]
        go_enter Try.func24, Try.ntmps24
        go_wp2_with fail
        refine (rcheck_yes h1 _).mono ?_
        rintro e1 w1 ⟨rfl, hE1⟩
        obtain ⟨hc1, hf1⟩ := Ext.rules hE1
        have hz1 := hE1.size
        try simp at hz1
        try have hl1 : w.heap.size < w1.heap.size := by omega
        try have hm1 : w.heap.size + 1 < w1.heap.size := by omega
        go_wp2_with fail
        go_ret
        refine ⟨(by first | rfl | exact ret_bool (by simp [*])), ?_⟩
        repeat' (first | exact Ext.refl _ | assumption | (with_reducible refine Ext.alloc ?_ _) | (with_reducible refine Ext.drew ?_) | (with_reducible refine Ext.drewN _ ?_) | (refine Ext.setCell ?_ (by first | exact Nat.le_refl _ | (simp; done) | (simp; omega) | omega) _) | (refine Ext.trans ?_ (by assumption)))
      · rw [show conB a b n = false by simp [conB, h3]]
        go_enter Try.func24, Try.ntmps24
        go_wp2_with fail
        refine (rcheck_yes h1 _).mono ?_
        rintro e1 w1 ⟨rfl, hE1⟩
        obtain ⟨hc1, hf1⟩ := Ext.rules hE1
        have hz1 := hE1.size
        try simp at hz1
        try have hl1 : w.heap.size < w1.heap.size := by omega
        try have hm1 : w.heap.size + 1 < w1.heap.size := by omega
        go_wp2_with fail
        go_ret
        refine ⟨(by first | rfl | exact ret_bool (by simp [*])), ?_⟩
        repeat' (first | exact Ext.refl _ | assumption | (with_reducible refine Ext.alloc ?_ _) | (with_reducible refine Ext.drew ?_) | (with_reducible refine Ext.drewN _ ?_) | (refine Ext.setCell ?_ (by first | exact Nat.le_refl _ | (simp; done) | (simp; omega) | omega) _) | (refine Ext.trans ?_ (by assumption)))
    · rw [show conB a b n = false by simp [conB, h2]]
      go_enter Try.func24, Try.ntmps24
      go_wp2_with fail
      refine (rcheck_yes h1 _).mono ?_
      rintro e1 w1 ⟨rfl, hE1⟩
      obtain ⟨hc1, hf1⟩ := Ext.rules hE1
      have hz1 := hE1.size
      try simp at hz1
      try have hl1 : w.heap.size < w1.heap.size := by omega
      try have hm1 : w.heap.size + 1 < w1.heap.size := by omega
      go_wp2_with fail
      go_ret
      refine ⟨(by first | rfl | exact ret_bool (by simp [*])), ?_⟩
      repeat' (first | exact Ext.refl _ | assumption | (with_reducible refine Ext.alloc ?_ _) | (with_reducible refine Ext.drew ?_) | (with_reducible refine Ext.drewN _ ?_) | (refine Ext.setCell ?_ (by first | exact Nat.le_refl _ | (simp; done) | (simp; omega) | omega) _) | (refine Ext.trans ?_ (by assumption)))
  · rw [show conB a b n = false by simp [conB, h1]]
    go_enter Try.func24, Try.ntmps24
    go_wp2_with fail
    refine (rcheck_no h1 _).mono ?_
    rintro e1 w1 ⟨k1, kb1, kc1, kd1, rfl, hE1⟩
    obtain ⟨hc1, hf1⟩ := Ext.rules hE1
    have hz1 := hE1.size
    try simp at hz1
    clear kd1
    try have hl1 : w.heap.size < w1.heap.size := by omega
    try have hm1 : w.heap.size + 1 < w1.heap.size := by omega
    go_wp2_with fail
    go_ret
    refine ⟨(by first | rfl | exact ret_bool (by simp [*])), ?_⟩
    repeat' (first | exact Ext.refl _ | assumption | (with_reducible refine Ext.alloc ?_ _) | (with_reducible refine Ext.drew ?_) | (with_reducible refine Ext.drewN _ ?_) | (refine Ext.setCell ?_ (by first | exact Nat.le_refl _ | (simp; done) | (simp; omega) | omega) _) | (refine Ext.trans ?_ (by assumption)))
theorem within_any (a b c d : Int) (w : World) : Calls Try.prog 15 #[.agg #[.int .i64 a, .int .i64 b], .agg #[.int .i64 c, .int .i64 d]] w fun x w' => x = .returned (.bool (witB a b c d)) ∧ Ext w w' := by
  by_cases h1 : Ivl a b
  · by_cases h2 : Ivl c d
    · have h0 := (ord_iff a b c d).2 ⟨h1, h2⟩
      by_cases h3 : c ≤ a
      · by_cases h4 : b ≤ d
        · rw [show witB a b c d = true by simp [witB, h0, h3, h4]]
          clear h0
          go_enter Try.func15, Try.ntmps15
          go_wp2_with fail
          refine (ordered_yes h1 h2 _).mono ?_
          rintro e1 w1 ⟨rfl, hE1⟩
          obtain ⟨hc1, hf1⟩ := Ext.rules hE1
          have hz1 := hE1.size
          try simp at hz1
          try have hl1 : w.heap.size < w1.heap.size := by omega
          try have hm1 : w.heap.size + 1 < w1.heap.size := by omega
          go_wp2_with fail
          go_ret
          refine ⟨(by first | rfl | exact ret_bool (by simp [*])), ?_⟩
          repeat' (first | exact Ext.refl _ | assumption | (with_reducible refine Ext.alloc ?_ _) | (with_reducible refine Ext.drew ?_) | (with_reducible refine Ext.drewN _ ?_) | (refine Ext.setCell ?_ (by first | exact Nat.le_refl _ | (simp; done) | (simp; omega) | omega) _) | (refine Ext.trans ?_ (by assumption)))
        · rw [show witB a b c d = false by simp [witB, h4]]
          clear h0
          go_enter Try.func15, Try.ntmps15
          go_wp2_with fail
          refine (ordered_yes h1 h2 _).mono ?_
          rintro e1 w1 ⟨rfl, hE1⟩
          obtain ⟨hc1, hf1⟩ := Ext.rules hE1
          have hz1 := hE1.size
          try simp at hz1
          try have hl1 : w.heap.size < w1.heap.size := by omega
          try have hm1 : w.heap.size + 1 < w1.heap.size := by omega
          go_wp2_with fail
          go_ret
          refine ⟨(by first | rfl | exact ret_bool (by simp [*])), ?_⟩
          repeat' (first | exact Ext.refl _ | assumption | (with_reducible refine Ext.alloc ?_ _) | (with_reducible refine Ext.drew ?_) | (with_reducible refine Ext.drewN _ ?_) | (refine Ext.setCell ?_ (by first | exact Nat.le_refl _ | (simp; done) | (simp; omega) | omega) _) | (refine Ext.trans ?_ (by assumption)))
      · rw [show witB a b c d = false by simp [witB, h3]]
        clear h0
        go_enter Try.func15, Try.ntmps15
        go_wp2_with fail
        refine (ordered_yes h1 h2 _).mono ?_
        rintro e1 w1 ⟨rfl, hE1⟩
        obtain ⟨hc1, hf1⟩ := Ext.rules hE1
        have hz1 := hE1.size
        try simp at hz1
        try have hl1 : w.heap.size < w1.heap.size := by omega
        try have hm1 : w.heap.size + 1 < w1.heap.size := by omega
        go_wp2_with fail
        go_ret
        refine ⟨(by first | rfl | exact ret_bool (by simp [*])), ?_⟩
        repeat' (first | exact Ext.refl _ | assumption | (with_reducible refine Ext.alloc ?_ _) | (with_reducible refine Ext.drew ?_) | (with_reducible refine Ext.drewN _ ?_) | (refine Ext.setCell ?_ (by first | exact Nat.le_refl _ | (simp; done) | (simp; omega) | omega) _) | (refine Ext.trans ?_ (by assumption)))
    · rw [show witB a b c d = false by simp [witB, ord_false (Or.inr h2)]]
      go_enter Try.func15, Try.ntmps15
      go_wp2_with fail
      refine (ordered_no (Or.inr h2) _).mono ?_
      rintro e1 w1 ⟨rfl, hE1⟩
      obtain ⟨hc1, hf1⟩ := Ext.rules hE1
      have hz1 := hE1.size
      try simp at hz1
      try have hl1 : w.heap.size < w1.heap.size := by omega
      try have hm1 : w.heap.size + 1 < w1.heap.size := by omega
      go_wp2_with fail
      go_ret
      refine ⟨(by first | rfl | exact ret_bool (by simp [*])), ?_⟩
      repeat' (first | exact Ext.refl _ | assumption | (with_reducible refine Ext.alloc ?_ _) | (with_reducible refine Ext.drew ?_) | (with_reducible refine Ext.drewN _ ?_) | (refine Ext.setCell ?_ (by first | exact Nat.le_refl _ | (simp; done) | (simp; omega) | omega) _) | (refine Ext.trans ?_ (by assumption)))
  · rw [show witB a b c d = false by simp [witB, ord_false (Or.inl h1)]]
    go_enter Try.func15, Try.ntmps15
    go_wp2_with fail
    refine (ordered_no (Or.inl h1) _).mono ?_
    rintro e1 w1 ⟨rfl, hE1⟩
    obtain ⟨hc1, hf1⟩ := Ext.rules hE1
    have hz1 := hE1.size
    try simp at hz1
    try have hl1 : w.heap.size < w1.heap.size := by omega
    try have hm1 : w.heap.size + 1 < w1.heap.size := by omega
    go_wp2_with fail
    go_ret
    refine ⟨(by first | rfl | exact ret_bool (by simp [*])), ?_⟩
    repeat' (first | exact Ext.refl _ | assumption | (with_reducible refine Ext.alloc ?_ _) | (with_reducible refine Ext.drew ?_) | (with_reducible refine Ext.drewN _ ?_) | (refine Ext.setCell ?_ (by first | exact Nat.le_refl _ | (simp; done) | (simp; omega) | omega) _) | (refine Ext.trans ?_ (by assumption)))
theorem rwithin_any (a b c d : Int) (w : World) : Calls Try.prog 26 #[.agg #[.int .i64 a, .int .i64 b], .agg #[.int .i64 c, .int .i64 d]] w fun x w' => x = .returned (.bool (witB a b c d)) ∧ Ext w w' := by
  by_cases h1 : Ivl a b
  · by_cases h2 : Ivl c d
    · have h0 := (ord_iff a b c d).2 ⟨h1, h2⟩
      by_cases h3 : c ≤ a
      · by_cases h4 : b ≤ d
        · rw [show witB a b c d = true by simp [witB, h0, h3, h4]]
          clear h0
          go_enter Try.func26, Try.ntmps26
          go_wp2_with fail
          refine (rcheck_yes h1 _).mono ?_
          rintro e1 w1 ⟨rfl, hE1⟩
          obtain ⟨hc1, hf1⟩ := Ext.rules hE1
          have hz1 := hE1.size
          try simp at hz1
          try have hl1 : w.heap.size < w1.heap.size := by omega
          try have hm1 : w.heap.size + 1 < w1.heap.size := by omega
          go_wp2_with fail
          refine (rcheck_yes h2 _).mono ?_
          rintro e2 w2 ⟨rfl, hE2⟩
          obtain ⟨hc2, hf2⟩ := Ext.rules hE2
          have hz2 := hE2.size
          try simp at hz2
          try have hl2 : w.heap.size < w2.heap.size := by omega
          try have hm2 : w.heap.size + 1 < w2.heap.size := by omega
          go_wp2_with fail
          go_ret
          refine ⟨(by first | rfl | exact ret_bool (by simp [*])), ?_⟩
          repeat' (first | exact Ext.refl _ | assumption | (with_reducible refine Ext.alloc ?_ _) | (with_reducible refine Ext.drew ?_) | (with_reducible refine Ext.drewN _ ?_) | (refine Ext.setCell ?_ (by first | exact Nat.le_refl _ | (simp; done) | (simp; omega) | omega) _) | (refine Ext.trans ?_ (by assumption)))
        · rw [show witB a b c d = false by simp [witB, h4]]
          clear h0
          go_enter Try.func26, Try.ntmps26
          go_wp2_with fail
          refine (rcheck_yes h1 _).mono ?_
          rintro e1 w1 ⟨rfl, hE1⟩
          obtain ⟨hc1, hf1⟩ := Ext.rules hE1
          have hz1 := hE1.size
          try simp at hz1
          try have hl1 : w.heap.size < w1.heap.size := by omega
          try have hm1 : w.heap.size + 1 < w1.heap.size := by omega
          go_wp2_with fail
          refine (rcheck_yes h2 _).mono ?_
          rintro e2 w2 ⟨rfl, hE2⟩
          obtain ⟨hc2, hf2⟩ := Ext.rules hE2
          have hz2 := hE2.size
          try simp at hz2
          try have hl2 : w.heap.size < w2.heap.size := by omega
          try have hm2 : w.heap.size + 1 < w2.heap.size := by omega
          go_wp2_with fail
          go_ret
          refine ⟨(by first | rfl | exact ret_bool (by simp [*])), ?_⟩
          repeat' (first | exact Ext.refl _ | assumption | (with_reducible refine Ext.alloc ?_ _) | (with_reducible refine Ext.drew ?_) | (with_reducible refine Ext.drewN _ ?_) | (refine Ext.setCell ?_ (by first | exact Nat.le_refl _ | (simp; done) | (simp; omega) | omega) _) | (refine Ext.trans ?_ (by assumption)))
      · rw [show witB a b c d = false by simp [witB, h3]]
        clear h0
        go_enter Try.func26, Try.ntmps26
        go_wp2_with fail
        refine (rcheck_yes h1 _).mono ?_
        rintro e1 w1 ⟨rfl, hE1⟩
        obtain ⟨hc1, hf1⟩ := Ext.rules hE1
        have hz1 := hE1.size
        try simp at hz1
        try have hl1 : w.heap.size < w1.heap.size := by omega
        try have hm1 : w.heap.size + 1 < w1.heap.size := by omega
        go_wp2_with fail
        refine (rcheck_yes h2 _).mono ?_
        rintro e2 w2 ⟨rfl, hE2⟩
        obtain ⟨hc2, hf2⟩ := Ext.rules hE2
        have hz2 := hE2.size
        try simp at hz2
        try have hl2 : w.heap.size < w2.heap.size := by omega
        try have hm2 : w.heap.size + 1 < w2.heap.size := by omega
        go_wp2_with fail
        go_ret
        refine ⟨(by first | rfl | exact ret_bool (by simp [*])), ?_⟩
        repeat' (first | exact Ext.refl _ | assumption | (with_reducible refine Ext.alloc ?_ _) | (with_reducible refine Ext.drew ?_) | (with_reducible refine Ext.drewN _ ?_) | (refine Ext.setCell ?_ (by first | exact Nat.le_refl _ | (simp; done) | (simp; omega) | omega) _) | (refine Ext.trans ?_ (by assumption)))
    · rw [show witB a b c d = false by simp [witB, ord_false (Or.inr h2)]]
      go_enter Try.func26, Try.ntmps26
      go_wp2_with fail
      refine (rcheck_yes h1 _).mono ?_
      rintro e1 w1 ⟨rfl, hE1⟩
      obtain ⟨hc1, hf1⟩ := Ext.rules hE1
      have hz1 := hE1.size
      try simp at hz1
      try have hl1 : w.heap.size < w1.heap.size := by omega
      try have hm1 : w.heap.size + 1 < w1.heap.size := by omega
      go_wp2_with fail
      refine (rcheck_no h2 _).mono ?_
      rintro e2 w2 ⟨k2, kb2, kc2, kd2, rfl, hE2⟩
      obtain ⟨hc2, hf2⟩ := Ext.rules hE2
      have hz2 := hE2.size
      try simp at hz2
      clear kd2
      try have hl2 : w.heap.size < w2.heap.size := by omega
      try have hm2 : w.heap.size + 1 < w2.heap.size := by omega
      go_wp2_with fail
      go_ret
      refine ⟨(by first | rfl | exact ret_bool (by simp [*])), ?_⟩
      repeat' (first | exact Ext.refl _ | assumption | (with_reducible refine Ext.alloc ?_ _) | (with_reducible refine Ext.drew ?_) | (with_reducible refine Ext.drewN _ ?_) | (refine Ext.setCell ?_ (by first | exact Nat.le_refl _ | (simp; done) | (simp; omega) | omega) _) | (refine Ext.trans ?_ (by assumption)))
  · rw [show witB a b c d = false by simp [witB, ord_false (Or.inl h1)]]
    go_enter Try.func26, Try.ntmps26
    go_wp2_with fail
    refine (rcheck_no h1 _).mono ?_
    rintro e1 w1 ⟨k1, kb1, kc1, kd1, rfl, hE1⟩
    obtain ⟨hc1, hf1⟩ := Ext.rules hE1
    have hz1 := hE1.size
    try simp at hz1
    clear kd1
    try have hl1 : w.heap.size < w1.heap.size := by omega
    try have hm1 : w.heap.size + 1 < w1.heap.size := by omega
    go_wp2_with fail
    go_ret
    refine ⟨(by first | rfl | exact ret_bool (by simp [*])), ?_⟩
    repeat' (first | exact Ext.refl _ | assumption | (with_reducible refine Ext.alloc ?_ _) | (with_reducible refine Ext.drew ?_) | (with_reducible refine Ext.drewN _ ?_) | (refine Ext.setCell ?_ (by first | exact Nat.le_refl _ | (simp; done) | (simp; omega) | omega) _) | (refine Ext.trans ?_ (by assumption)))
end Go.Proofs.Ytbpnagamcohlnaa
