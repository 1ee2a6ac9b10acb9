/- Layer 18: slices.Clone of code and of integers. -/
import Derived.Test.YtcnbljohhajkhaaWn
import Derived.Lib.SliceRun
namespace Go.Proofs.Ytcnbljohhajkhaa
open Go.RowKit
set_option linter.unusedVariables false
set_option linter.unusedSimpArgs false
attribute [local go_sem ↓] Go.wp_at_zero Go.wp_at_succ

set_option maxRecDepth 100000 in
theorem clonec_any (v : Value) (C : List (Int × Int)) (w : World) (h : Code18 w v C) (hl : C.length ≤ 2000) :
    Calls Try.prog 24 #[v] w fun x w' => ∃ v', x = .returned v' ∧ OwnC w' w.heap.size v' C ∧ Ext w w' := by
  obtain ⟨n, hn⟩ : ∃ n, C.length = n := ⟨_, rfl⟩
  obtain ⟨a, cap, rfl, hcap, hcap2, hnil⟩ := Rd.shape h
  have qT : ∀ (w : World) (a : Option Addr) (n c n' c' : Nat), (binOp .eql 22 (.slice a n c) (.slice none n' c')).run Try.prog w = .ok (.bool a.isNone) w := fun w a n c n' c' => Lib.run_eql_slice_nil w _ _ a n c n' c' Try.underlying22
  rw [hn] at h hl hcap ⊢
  cases a with
  | none =>
    have hc := hnil rfl
    subst hc
    obtain rfl : n = 0 := by omega
    have hC : C = [] := List.length_eq_zero_iff.1 hn
    subst hC
    clear h hn
    go_enter Try.func24, Try.ntmps24
    go_wp2_with fail
    go_ret
    exact ⟨_, rfl, ⟨by simp, Or.inl ⟨rfl, rfl⟩⟩, Ext.refl w⟩
  | some ad =>
    obtain ⟨i0, hi, hz0, hz1, hz2⟩ := info_parts insinfo
    have hia := hidden hi
    have HR := hidden (show Rd (w.alloc (.cells #[] 45)) 2 (.slice (some ad) n cap) n (C.flatMap icell) by have := h.ext ((Ext.refl w).alloc (.cells #[] 45)); unfold Code18 at this; rw [hn] at this; exact this)
    have HO := hidden (own_zero w 45 2)
    replace hn := hidden hn
    clear h hi
    go_enter Try.func24, Try.ntmps24
    go_wp2_with (at_builtin; refine wpList_append_rd (by rfl) _ _ 22 (by rfl) w.heap.size 45 i0 (.agg #[.int .i64 0, .int .u32 0]) 2 16 Try.underlying22 hia.out hz0 hz1 hz2 rfl (by decide) (.slice (some ⟨w.heap.size, 0, none⟩) 0 0) 0 [] (by rfl) HO.out (some ad) n cap (C.flatMap icell) (by rfl) HR.out (icell_one C) (by unfold maxLen; omega) (by omega) (by simp) ?_; intro v' w4 hown4 hgrow4 hat4)
    go_ret
    have hX4 : Ext w w4 := ((Chg.of_ext [] ((Ext.refl w).alloc (.cells #[] 45))).grown hgrow4 (fun k hk => Or.inr (own_lt HO.out hk).1)).ext
    refine ⟨_, rfl, ?_, hX4⟩
    unfold OwnC
    rw [hn.out]
    simpa using hown4
theorem clonei_any (v : Value) (l : List Int) (w : World) (h : RdI w v l) (hl : l.length ≤ 100000) :
    Calls Try.prog 25 #[v] w fun x w' => ∃ v', x = .returned v' ∧ OwnI w' w.heap.size v' l ∧ Ext w w' := by
  obtain ⟨a, cap, rfl, -⟩ := h.shape'
  cases a with
  | none =>
    have h0 : l = [] := by
      apply Classical.byContradiction
      intro hne
      obtain ⟨b, off, e, -⟩ := Rd.cells h (by cases l with | nil => exact absurd rfl hne | cons => simp)
      cases e
    subst h0
    refine (Go.Proofs.Try.slices_Clone_int_nil _ _ w).mono ?_
    rintro e w1 ⟨rfl, rfl⟩
    exact ⟨_, rfl, ⟨by simp, Or.inl ⟨rfl, rfl⟩⟩, Ext.refl _⟩
  | some ad =>
    by_cases h0 : l.length = 0
    · have hl0 : l = [] := List.length_eq_zero_iff.1 h0
      subst hl0
      refine (Go.Proofs.Try.slices_Clone_int_zero ad cap w).mono ?_
      rintro e w1 ⟨v', rfl, hO, -, hX⟩
      exact ⟨_, rfl, hO, hX⟩
    · obtain ⟨b, off, e, -, -⟩ := Rd.cells h (by omega)
      cases e
      refine (Go.Proofs.Try.slices_Clone_int b off l.length cap l w (Nat.le_refl _) (by omega) (fun j hj => RdI.at h j hj)).mono ?_
      rintro e w1 ⟨v', rfl, hO, -, hX⟩
      refine ⟨_, rfl, ?_, hX⟩
      rw [List.take_of_length_le (Nat.le_refl _)] at hO
      exact hO
end Go.Proofs.Ytcnbljohhajkhaa
