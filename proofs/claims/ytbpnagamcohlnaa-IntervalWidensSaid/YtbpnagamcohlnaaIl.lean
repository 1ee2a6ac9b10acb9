/- Widen whole; shifted; ones. -/
import Derived.Test.YtbpnagamcohlnaaIk
import Derived.Test.YtbpnagamcohlnaaShelf
import Derived.StillTailTactics
namespace Go.Proofs.Ytbpnagamcohlnaa
open Go.RowKit
set_option linter.unusedVariables false


theorem widen_any (a b c d : Int) (w : World) : Calls Try.prog 17 #[.agg #[.int .i64 a, .int .i64 b], .agg #[.int .i64 c, .int .i64 d]] w fun x w' => x = .returned (.agg #[.int .i64 (widL a b c d), .int .i64 (widH a b c d)]) ∧ Ext w w' := by
  by_cases h1 : Ivl a b
  · by_cases h2 : Ivl c d
    · have h0 := (ord_iff a b c d).2 ⟨h1, h2⟩
      have h3 : d ≤ 4294967295 := h2.2.2
      rw [show widL a b c d = if c < a then 0 else a by simp [widL, h0], show widH a b c d = if b < d then lim d else b by simp [widH, h0]]
      unfold lim
      by_cases k1 : c < a <;> by_cases k2 : b < d <;> simp only [k1, k2, if_true, if_false]
      · by_cases k3 : d ≤ 255
        · rw [if_pos k3]; exact widen_l1 a b c d h1 h2 k1 k2 k3 (by omega) h3 w
        · by_cases k4 : d ≤ 65535
          · rw [if_neg k3, if_pos k4]; exact widen_l2 a b c d h1 h2 k1 k2 k3 k4 h3 w
          · rw [if_neg k3, if_neg k4]; exact widen_l3 a b c d h1 h2 k1 k2 k3 k4 h3 w
      · exact widen_ln a b c d h1 h2 k1 k2 w
      · by_cases k3 : d ≤ 255
        · rw [if_pos k3]; exact widen_s1 a b c d h1 h2 k1 k2 k3 (by omega) h3 w
        · by_cases k4 : d ≤ 65535
          · rw [if_neg k3, if_pos k4]; exact widen_s2 a b c d h1 h2 k1 k2 k3 k4 h3 w
          · rw [if_neg k3, if_neg k4]; exact widen_s3 a b c d h1 h2 k1 k2 k3 k4 h3 w
      · exact widen_sn a b c d h1 h2 k1 k2 w
    · have h0 := ord_false (a := a) (b := b) (c := c) (d := d) (Or.inr h2)
      rw [show widL a b c d = 0 by simp [widL, h0], show widH a b c d = 0 by simp [widH, h0]]
      clear h0
      go_enter Try.func17, Try.ntmps17
      go_wp2_with fail
      refine (ordered_no (Or.inr h2) _).mono ?_
      rintro e1 w1 ⟨rfl, hE1⟩
      obtain ⟨hc1, hf1⟩ := Ext.rules hE1
      have hz1 := hE1.size
      try simp at hz1
      try have hl1 : w.heap.size < w1.heap.size := by omega
      try have hm1 : w.heap.size + 1 < w1.heap.size := by omega
      try have hk1 : w.heap.size + 1 + 1 < w1.heap.size := by omega
      go_wp2_with fail
      refine bodyPost_ret (v := .agg #[.int .i64 0, .int .i64 0]) (by simp [results, Try.results17, go_sem, *]) rfl ⟨rfl, ?_⟩
      repeat' (first | exact Ext.refl _ | assumption | (with_reducible refine Ext.alloc ?_ _) | (with_reducible refine Ext.drew ?_) | (with_reducible refine Ext.drewN _ ?_) | (refine Ext.setCell ?_ (by first | exact Nat.le_refl _ | (simp; done) | (simp; omega) | omega) _) | (refine Ext.trans ?_ (by assumption)))
  · have h0 := ord_false (a := a) (b := b) (c := c) (d := d) (Or.inl h1)
    rw [show widL a b c d = 0 by simp [widL, h0], show widH a b c d = 0 by simp [widH, h0]]
    clear h0
    go_enter Try.func17, Try.ntmps17
    go_wp2_with fail
    refine (ordered_no (Or.inl h1) _).mono ?_
    rintro e1 w1 ⟨rfl, hE1⟩
    obtain ⟨hc1, hf1⟩ := Ext.rules hE1
    have hz1 := hE1.size
    try simp at hz1
    try have hl1 : w.heap.size < w1.heap.size := by omega
    try have hm1 : w.heap.size + 1 < w1.heap.size := by omega
    try have hk1 : w.heap.size + 1 + 1 < w1.heap.size := by omega
    go_wp2_with fail
    refine bodyPost_ret (v := .agg #[.int .i64 0, .int .i64 0]) (by simp [results, Try.results17, go_sem, *]) rfl ⟨rfl, ?_⟩
    repeat' (first | exact Ext.refl _ | assumption | (with_reducible refine Ext.alloc ?_ _) | (with_reducible refine Ext.drew ?_) | (with_reducible refine Ext.drewN _ ?_) | (refine Ext.setCell ?_ (by first | exact Nat.le_refl _ | (simp; done) | (simp; omega) | omega) _) | (refine Ext.trans ?_ (by assumption)))
theorem rwiden_any (a b c d : Int) (w : World) : Calls Try.prog 29 #[.agg #[.int .i64 a, .int .i64 b], .agg #[.int .i64 c, .int .i64 d]] w fun x w' => x = .returned (.agg #[.int .i64 (widL a b c d), .int .i64 (widH a b c d)]) ∧ Ext w w' := by
  by_cases h1 : Ivl a b
  · by_cases h2 : Ivl c d
    · have h0 := (ord_iff a b c d).2 ⟨h1, h2⟩
      have h3 : d ≤ 4294967295 := h2.2.2
      rw [show widL a b c d = if c < a then 0 else a by simp [widL, h0], show widH a b c d = if b < d then lim d else b by simp [widH, h0]]
      unfold lim
      by_cases k1 : c < a <;> by_cases k2 : b < d <;> simp only [k1, k2, if_true, if_false]
      · by_cases k3 : d ≤ 255
        · rw [if_pos k3]; exact rwiden_l1 a b c d h1 h2 k1 k2 k3 (by omega) h3 w
        · by_cases k4 : d ≤ 65535
          · rw [if_neg k3, if_pos k4]; exact rwiden_l2 a b c d h1 h2 k1 k2 k3 k4 h3 w
          · rw [if_neg k3, if_neg k4]; exact rwiden_l3 a b c d h1 h2 k1 k2 k3 k4 h3 w
      · exact rwiden_ln a b c d h1 h2 k1 k2 w
      · by_cases k3 : d ≤ 255
        · rw [if_pos k3]; exact rwiden_s1 a b c d h1 h2 k1 k2 k3 (by omega) h3 w
        · by_cases k4 : d ≤ 65535
          · rw [if_neg k3, if_pos k4]; exact rwiden_s2 a b c d h1 h2 k1 k2 k3 k4 h3 w
          · rw [if_neg k3, if_neg k4]; exact rwiden_s3 a b c d h1 h2 k1 k2 k3 k4 h3 w
      · exact rwiden_sn a b c d h1 h2 k1 k2 w
    · have h0 := ord_false (a := a) (b := b) (c := c) (d := d) (Or.inr h2)
      rw [show widL a b c d = 0 by simp [widL, h0], show widH a b c d = 0 by simp [widH, h0]]
      clear h0
      go_enter Try.func29, Try.ntmps29
      go_wp2_with fail
      refine (rcheck_yes h1 _).mono ?_
      rintro e1 w1 ⟨rfl, hE1⟩
      obtain ⟨hc1, hf1⟩ := Ext.rules hE1
      have hz1 := hE1.size
      try simp at hz1
      try have hl1 : w.heap.size < w1.heap.size := by omega
      try have hm1 : w.heap.size + 1 < w1.heap.size := by omega
      try have hk1 : w.heap.size + 1 + 1 < w1.heap.size := by omega
      go_wp2_with fail
      refine (rcheck_no h2 _).mono ?_
      rintro e2 w2 ⟨k2, kb2, kc2, kd2, rfl, hE2⟩
      obtain ⟨hc2, hf2⟩ := Ext.rules hE2
      have hz2 := hE2.size
      try simp at hz2
      clear kd2
      try have hl2 : w.heap.size < w2.heap.size := by omega
      try have hm2 : w.heap.size + 1 < w2.heap.size := by omega
      try have hk2 : w.heap.size + 1 + 1 < w2.heap.size := by omega
      go_wp2_with fail
      refine bodyPost_ret (v := .agg #[.int .i64 0, .int .i64 0]) (by simp [results, Try.results29, go_sem, *]) rfl ⟨rfl, ?_⟩
      repeat' (first | exact Ext.refl _ | assumption | (with_reducible refine Ext.alloc ?_ _) | (with_reducible refine Ext.drew ?_) | (with_reducible refine Ext.drewN _ ?_) | (refine Ext.setCell ?_ (by first | exact Nat.le_refl _ | (simp; done) | (simp; omega) | omega) _) | (refine Ext.trans ?_ (by assumption)))
  · have h0 := ord_false (a := a) (b := b) (c := c) (d := d) (Or.inl h1)
    rw [show widL a b c d = 0 by simp [widL, h0], show widH a b c d = 0 by simp [widH, h0]]
    clear h0
    go_enter Try.func29, Try.ntmps29
    go_wp2_with fail
    refine (rcheck_no h1 _).mono ?_
    rintro e1 w1 ⟨k1, kb1, kc1, kd1, rfl, hE1⟩
    obtain ⟨hc1, hf1⟩ := Ext.rules hE1
    have hz1 := hE1.size
    try simp at hz1
    clear kd1
    try have hl1 : w.heap.size < w1.heap.size := by omega
    try have hm1 : w.heap.size + 1 < w1.heap.size := by omega
    try have hk1 : w.heap.size + 1 + 1 < w1.heap.size := by omega
    go_wp2_with fail
    refine bodyPost_ret (v := .agg #[.int .i64 0, .int .i64 0]) (by simp [results, Try.results29, go_sem, *]) rfl ⟨rfl, ?_⟩
    repeat' (first | exact Ext.refl _ | assumption | (with_reducible refine Ext.alloc ?_ _) | (with_reducible refine Ext.drew ?_) | (with_reducible refine Ext.drewN _ ?_) | (refine Ext.setCell ?_ (by first | exact Nat.le_refl _ | (simp; done) | (simp; omega) | omega) _) | (refine Ext.trans ?_ (by assumption)))
set_option maxHeartbeats 400000 in
theorem shifted_any (l h : Int) (hl0 : -20000000000 ≤ l) (hl1 : l ≤ 20000000000) (hh0 : -20000000000 ≤ h) (hh1 : h ≤ 20000000000) (w : World) : Calls Try.prog 55 #[.int .i64 l, .int .i64 h] w fun x w' => x = .returned (.agg #[.int .i64 (shL l h), .int .i64 (shH l h)]) ∧ Ext w w' := by
  by_cases k1 : 0 ≤ l
  · by_cases k2 : h ≤ 4294967295
    · rw [show shL l h = l by unfold shL; (repeat' split) <;> omega, show shH l h = h by unfold shH; (repeat' split) <;> omega]
      go_enter Try.func55, Try.ntmps55
      go_wp2_with fail
      refine bodyPost_ret (v := .agg #[.int .i64 l, .int .i64 h]) (by simp [results, Try.results55, go_sem, *]) rfl ⟨rfl, ?_⟩
      repeat' (first | exact Ext.refl _ | assumption | (with_reducible refine Ext.alloc ?_ _) | (with_reducible refine Ext.drew ?_) | (with_reducible refine Ext.drewN _ ?_) | (refine Ext.setCell ?_ (by first | exact Nat.le_refl _ | (simp; done) | (simp; omega) | omega) _) | (refine Ext.trans ?_ (by assumption)))
    · by_cases k3 : 4294967295 < l
      · rw [show shL l h = l - 4294967295 - 1 by unfold shL; (repeat' split) <;> omega, show shH l h = h - 4294967295 - 1 by unfold shH; (repeat' split) <;> omega]
        go_enter Try.func55, Try.ntmps55
        go_wp2_with fail
        refine bodyPost_ret (v := .agg #[.int .i64 (l - 4294967295 - 1), .int .i64 (h - 4294967295 - 1)]) (by simp [results, Try.results55, go_sem, *]) rfl ⟨rfl, ?_⟩
        repeat' (first | exact Ext.refl _ | assumption | (with_reducible refine Ext.alloc ?_ _) | (with_reducible refine Ext.drew ?_) | (with_reducible refine Ext.drewN _ ?_) | (refine Ext.setCell ?_ (by first | exact Nat.le_refl _ | (simp; done) | (simp; omega) | omega) _) | (refine Ext.trans ?_ (by assumption)))
      · have k4 : ¬ h < 0 ∨ h < 0 := by omega
        rcases k4 with k4 | k4
        · rw [show shL l h = 0 by unfold shL; (repeat' split) <;> omega, show shH l h = 4294967295 by unfold shH; (repeat' split) <;> omega]
          go_enter Try.func55, Try.ntmps55
          go_wp2_with fail
          refine (full_any _).mono ?_
          rintro e1 w1 ⟨rfl, hE1⟩
          obtain ⟨hc1, hf1⟩ := Ext.rules hE1
          have hz1 := hE1.size
          try simp at hz1
          try have hl1 : w.heap.size < w1.heap.size := by omega
          try have hm1 : w.heap.size + 1 < w1.heap.size := by omega
          go_wp2_with fail
          refine bodyPost_ret (v := .agg #[.int .i64 0, .int .i64 4294967295]) (by simp [results, Try.results55, go_sem, *]) rfl ⟨rfl, ?_⟩
          repeat' (first | exact Ext.refl _ | assumption | (with_reducible refine Ext.alloc ?_ _) | (with_reducible refine Ext.drew ?_) | (with_reducible refine Ext.drewN _ ?_) | (refine Ext.setCell ?_ (by first | exact Nat.le_refl _ | (simp; done) | (simp; omega) | omega) _) | (refine Ext.trans ?_ (by assumption)))
        · omega
  · have k3 : ¬ 4294967295 < l := by omega
    by_cases k4 : h < 0
    · rw [show shL l h = l + 4294967295 + 1 by unfold shL; (repeat' split) <;> omega, show shH l h = h + 4294967295 + 1 by unfold shH; (repeat' split) <;> omega]
      go_enter Try.func55, Try.ntmps55
      go_wp2_with fail
      refine bodyPost_ret (v := .agg #[.int .i64 (l + 4294967295 + 1), .int .i64 (h + 4294967295 + 1)]) (by simp [results, Try.results55, go_sem, *]) rfl ⟨rfl, ?_⟩
      repeat' (first | exact Ext.refl _ | assumption | (with_reducible refine Ext.alloc ?_ _) | (with_reducible refine Ext.drew ?_) | (with_reducible refine Ext.drewN _ ?_) | (refine Ext.setCell ?_ (by first | exact Nat.le_refl _ | (simp; done) | (simp; omega) | omega) _) | (refine Ext.trans ?_ (by assumption)))
    · rw [show shL l h = 0 by unfold shL; (repeat' split) <;> omega, show shH l h = 4294967295 by unfold shH; (repeat' split) <;> omega]
      go_enter Try.func55, Try.ntmps55
      go_wp2_with fail
      refine (full_any _).mono ?_
      rintro e1 w1 ⟨rfl, hE1⟩
      obtain ⟨hc1, hf1⟩ := Ext.rules hE1
      have hz1 := hE1.size
      try simp at hz1
      try have hl1 : w.heap.size < w1.heap.size := by omega
      try have hm1 : w.heap.size + 1 < w1.heap.size := by omega
      go_wp2_with fail
      refine bodyPost_ret (v := .agg #[.int .i64 0, .int .i64 4294967295]) (by simp [results, Try.results55, go_sem, *]) rfl ⟨rfl, ?_⟩
      repeat' (first | exact Ext.refl _ | assumption | (with_reducible refine Ext.alloc ?_ _) | (with_reducible refine Ext.drew ?_) | (with_reducible refine Ext.drewN _ ?_) | (refine Ext.setCell ?_ (by first | exact Nat.le_refl _ | (simp; done) | (simp; omega) | omega) _) | (refine Ext.trans ?_ (by assumption)))
theorem ones_any (n : Int) (h0 : 0 ≤ n) (h1 : n ≤ 4294967295) (w : World) : Calls Try.prog 56 #[.int .i64 n] w fun x w' => x = .returned (.int .i64 (ones n)) ∧ w = w' := by
  have hb := bitLen_le n h0 h1
  have ho : ones n = 2 ^ (Lib.bitLen n.toNat) - 1 := rfl
  have hlen := Try.bits_Len n
  obtain ⟨L, hL⟩ : ∃ L, Lib.bitLen n.toNat = L := ⟨_, rfl⟩
  rw [hL] at hb ho
  simp only [hL] at hlen
  have hlen := hidden hlen
  have ho := hidden ho
  clear hL
  go_enter Try.func56, Try.ntmps56
  go_wp2_with fail
  refine (hlen.out _ h0 (by omega)).mono ?_
  rintro e w1 ⟨rfl, rfl⟩
  go_wp2_with fail
  go_ret
  refine ⟨ret_int ?_, rfl⟩
  have hp := pow_bd L hb
  rw [ho.out]
  rw [IntWalk.wrap64_in (2 ^ L) (by omega), IntWalk.wrap64_in _ (by omega)]
end Go.Proofs.Ytbpnagamcohlnaa
