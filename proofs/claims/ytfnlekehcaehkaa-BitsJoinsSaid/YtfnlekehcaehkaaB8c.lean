/- slices.Clone of bytes. -/
import Derived.Test.YtfnlekehcaehkaaB8
namespace Go.Proofs.Ytfnlekehcaehkaa
open Go.RowKit
set_option linter.unusedVariables false

set_option maxHeartbeats 400000 in
theorem clone_any (v : Value) (l : List Int) (hl : l.length ≤ 900000) (w : World) (h : Rd8 w v l) :
    Calls Try.prog 36 #[v] w fun x w' => ∃ v', x = .returned v' ∧ Own8 w' w.heap.size v' l ∧ Ext w w' := by
  have q22 : ∀ (w : World) (a : Option Addr) (n c n' c' : Nat), (binOp .eql 22 (.slice a n c) (.slice none n' c')).run Try.prog w = .ok (.bool a.isNone) w := fun w a n c n' c' => Lib.run_eql_slice_nil w _ _ a n c n' c' Try.underlying22
  obtain ⟨a, cap, rfl, h1, h2, h3⟩ := Rd.shape h
  cases a with
  | none =>
    have hc := h3 rfl
    subst hc
    have hl0 : l.length = 0 := by omega
    rw [hl0]
    have he : Hid (l = []) := List.eq_nil_of_length_eq_zero hl0
    clear hl0 h1 hl h
    go_enter Try.func36, Try.ntmps36
    go_wp2_with fail
    go_ret
    exact ⟨_, rfl, by rw [he.out]; exact World.ownsRow_nil _ _ _ _, Ext.refl _⟩
  | some ad =>
    obtain ⟨i0, hi, hz0, hz1, hz2⟩ := info_parts u8info
    have hz : World.ownsRow (w.alloc (.cells #[] 5)) w.heap.size 5 1 (.slice (some ⟨w.heap.size, 0, none⟩) 0 0) 0 [] := World.ownsRow_made w #[] 0 (Nat.le_refl _) (Nat.zero_le _) rfl
    have hr := Rd.alloc h (.cells #[] 5)
    have H := hidden h
    clear h
    go_enter Try.func36, Try.ntmps36
    go_wp2_with (at_builtin; refine wpList_append_own _ rfl _ _ 22 rfl w.heap.size 5 i0 (.int .u8 0) 1 1 Try.underlying22 hi hz0 hz1 hz2 rfl (by decide) _ 0 [] rfl hz ad l.length cap (bs l) rfl (by simp [bs]) hr.news (bs_one l) (by unfold maxLen; omega) (by omega) (by simp) ?_; intro v1 w1 hown hgrow hnil)
    go_ret
    refine ⟨v1, rfl, ?_, ?_⟩
    · rw [Nat.zero_add, List.nil_append] at hown
      exact hown
    · exact (((Chg.refl [] w).alloc _).grown hgrow (fun k hk => Or.inr (by injection hk with hk; exact Nat.le_of_eq hk))).ext
end Go.Proofs.Ytfnlekehcaehkaa
