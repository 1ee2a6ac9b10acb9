/- Encode of package instruction. -/
import Derived.Test.YtchkbidekmaaiaaJo
import Derived.Test.YtchkbidekmaaiaaJk
import Derived.Test.YtchkbidekmaaiaaIb
import Derived.Deep.RegionHeld3
import Derived.Outline
namespace Go.Proofs.Ytchkbidekmaaiaa
open Go.RowKit
set_option linter.unusedVariables false
attribute [local go_sem ↓] Go.wp_at_zero Go.wp_at_succ

/-- What is left by a function that returns bytes and an error. -/
def EncPost (w : World) (r : Int × List Int) (x : Ending) (w' : World) : Prop :=
  ∃ v', x = .returned (.tuple #[v', .int .i64 r.1]) ∧ Own8 w' w.heap.size v' r.2 ∧ Ext w w'
def encF (A : List (Bool × Int)) (L : Int) (C : List (Int × Int)) : Int × List Int := if formE A L C ≠ 0 then (formE A L C, []) else (0, progB A L C)

theorem arrs_ok : ∀ (l : List (Bool × Int)) (left : Int), left ≤ 65536 → arrs left l = 0 → ∀ x ∈ l, 1 ≤ x.2 ∧ x.2 ≤ 65536
  | [], _, _, _ => fun x hx => by cases hx
  | a :: r, left, hl, h => by
    by_cases hc : a.2 < 1 ∨ left < a.2
    · rw [show arrs left (a :: r) = 2 from if_pos hc] at h; cases h
    · rw [show arrs left (a :: r) = arrs (left - a.2) r from if_neg hc] at h
      have ih := arrs_ok r (left - a.2) (by omega) h
      intro x hx
      rcases List.mem_cons.1 hx with rfl | hx
      · omega
      · exact ih x hx
theorem codE_ok : ∀ (l : List (Int × Int)), codE l = 0 → ∀ x ∈ l, chkI x.1 x.2 = 0
  | [], _ => fun x hx => by cases hx
  | a :: r, h => by
    by_cases hc : chkI a.1 a.2 ≠ 0
    · rw [show codE (a :: r) = _ from if_pos hc] at h; exact absurd h hc
    · rw [show codE (a :: r) = codE r from if_neg hc] at h
      intro x hx
      rcases List.mem_cons.1 hx with rfl | hx
      · exact Decidable.not_not.1 hc
      · exact codE_ok r h x hx
theorem form_ok {A : List (Bool × Int)} {L : Int} {C : List (Int × Int)} (h : formE A L C = 0) :
    A.length ≤ 8 ∧ (∀ x ∈ A, 1 ≤ x.2 ∧ x.2 ≤ 65536) ∧ 0 ≤ L ∧ L ≤ 16 ∧ C.length ≤ 1024 ∧ codE C = 0 ∧ arrs 65536 A = 0 := by
  unfold formE at h
  by_cases h1 : arrE A ≠ 0
  · rw [if_pos h1] at h; exact absurd h h1
  · rw [if_neg h1] at h
    have h1 := Decidable.not_not.1 h1
    by_cases h2 : L < 0 ∨ 16 < L
    · rw [if_pos h2] at h; cases h
    · rw [if_neg h2] at h
      by_cases h3 : 1024 < C.length
      · rw [if_pos h3] at h; cases h
      · rw [if_neg h3] at h
        unfold arrE at h1
        by_cases h4 : 8 < A.length
        · rw [if_pos h4] at h1; cases h1
        · rw [if_neg h4] at h1
          exact ⟨by omega, arrs_ok A 65536 (by omega) h1, by omega, by omega, by omega, h, h1⟩
theorem wenc_8 (n : Int) (h0 : 0 ≤ n) (h1 : n ≤ 9007199254740991) : (wenc n).length ≤ 8 := by
  have := fur_7 n h0 h1
  rw [wenc_len]; omega
theorem encA_len (l : List (Bool × Int)) : (encA l).length ≤ 8 * l.length := by
  induction l with
  | nil => simp [encA]
  | cons a l ih =>
    have := wenc_8 (wnum (arrN a)) (wnum_bd _).1 (wnum_bd _).2
    have e : encA (a :: l) = wenc (wnum (arrN a)) ++ encA l := by simp [encA]
    rw [e, List.length_append, List.length_cons]; omega
theorem encC_len (l : List (Int × Int)) (h : ∀ x ∈ l, 0 ≤ x.2 ∧ x.2 ≤ 4294967295) : (encC l).length ≤ 9 * l.length := by
  induction l with
  | nil => simp [encC]
  | cons a l ih =>
    have h1 := h a (by simp)
    have := wenc_8 a.2 h1.1 (by omega)
    have e : encC (a :: l) = encI a ++ encC l := by simp [encC]
    have e2 : (encI a).length ≤ 9 := by unfold encI; split <;> simp <;> omega
    have := ih (fun x hx => h x (by simp [hx]))
    rw [e, List.length_append, List.length_cons]; omega
theorem chk_ok {op arg : Int} (h : chkI op arg = 0) : 0 ≤ op ∧ op < 36 := by
  unfold chkI at h
  by_cases h1 : isOp op = false
  · rw [if_pos h1] at h; cases h
  · have h2 : isOp op = true := by simpa using h1
    exact of_decide_eq_true h2
end Go.Proofs.Ytchkbidekmaaiaa
