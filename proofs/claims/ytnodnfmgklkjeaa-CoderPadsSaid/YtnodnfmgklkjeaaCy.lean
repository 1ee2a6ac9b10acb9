/- The law CoderReturns: the plain step and the walk. -/
import Derived.Test.YtnodnfmgklkjeaaCx
namespace Go.Proofs.Ytnodnfmgklkjeaa
open Go.RowKit
set_option linter.unusedVariables false
attribute [local go_sem ↓] Go.wp_at_zero Go.wp_at_succ

theorem bytes_of_trim {l : List Int} (h : Bytes l) : Bytes (trim l) := by
  intro x hx
  refine h x ?_
  unfold trim at hx
  rw [List.mem_reverse] at hx
  have := (List.dropWhile_sublist _).subset hx
  rwa [List.mem_reverse] at this
theorem trim_len (l : List Int) : (trim l).length ≤ l.length := by
  unfold trim
  rw [List.length_reverse]
  have := (List.dropWhile_sublist (p := fun x : Int => decide (x = 0)) (l := l.reverse)).length_le
  rwa [List.length_reverse] at this
theorem finL_bytes {lo wd : Int} {out : List Int} (h : Inv wd lo out) (hw : 16777216 ≤ wd) : Bytes (finL lo wd out) := by
  obtain ⟨w0, w1, l0, l1, hb, hf⟩ := h
  unfold finL
  split
  · exact hb
  · split
    · exact carryL_bytes hb
    · exact hb.snoc (by omega) (by omega)
theorem finL_len (lo wd : Int) (out : List Int) : (finL lo wd out).length ≤ out.length + 1 := by
  unfold finL
  split
  · omega
  · split
    · rw [carryL_len]; omega
    · simp
theorem codeOf_bytes (l : List (Bool × Int)) : Bytes (codeOf l) := bytes_of_trim (finL_bytes (stAt_inv l l.length).1 (stAt_inv l l.length).2)
theorem codeOf_len (l : List (Bool × Int)) : (codeOf l).length ≤ 3 * l.length + 1 := by
  have h1 := trim_len (finL (stAt l l.length).2.1 (stAt l l.length).1 (stAt l l.length).2.2)
  have h2 := finL_len (stAt l l.length).2.1 (stAt l l.length).1 (stAt l l.length).2.2
  have h3 := stAt_len l l.length (Nat.le_refl _)
  unfold codeOf
  omega
theorem stAt_rest (l : List (Bool × Int)) (k : Nat) : encs (stAt l k) ((l.drop k).map stepOf) = stAt l l.length := by
  unfold stAt encs
  rw [← List.foldl_append, ← List.map_append, List.take_append_drop, List.take_length]
theorem code_in (l : List (Bool × Int)) (k : Nat) : SIn (codeOf l) (stAt l k) := by
  have hi := stAt_inv l l.length
  refine in_back (codeOf l) (codeOf_bytes l) (stAt l k) (stAt_inv l k) ((l.drop k).map stepOf) (fun x hx => by obtain ⟨y, _, rfl⟩ := List.mem_map.1 hx; exact step_ok y) ?_
  rw [stAt_rest]
  exact fin_in _ _ _ hi.1 hi.2
/-- The decoder's state before the step k. -/
def dcAt (l : List (Bool × Int)) (k : Nat) : Int × Int × List Int := beside (codeOf l) (stAt l k)
theorem dcAt_first (l : List (Bool × Int)) : opF (codeOf l) = dcAt l 0 := by
  rw [beside_first _ (codeOf_bytes l)]; rfl
theorem dcAt_step (l : List (Bool × Int)) (hl : l.length ≤ 10000) (k : Nat) (hk : k < l.length) :
    decF (dcAt l k).1 (dcAt l k).2.1 (dcAt l k).2.2 (pOf (l.getD k (false, 0))) = (0, bitOf (l.getD k (false, 0)), dcAt l (k + 1)) ∧
    16777216 ≤ (dcAt l k).1 ∧ (dcAt l k).1 ≤ 4294967295 ∧ 0 ≤ (dcAt l k).2.1 ∧ (dcAt l k).2.1 ≤ 4294967295 ∧ Bytes (dcAt l k).2.2 := by
  obtain ⟨x, hx⟩ : ∃ x, l.getD k (false, 0) = x := ⟨_, rfl⟩
  have hin := code_in l (k + 1)
  rw [stAt_succ l k hk, hx] at hin
  have hi := stAt_inv l k
  obtain ⟨h1, h2, h3, h4⟩ := beside_step (codeOf l) (codeOf_bytes l) (stAt l k) hi (stepOf x) (step_ok x) hin
  have hs := stAt_succ l k hk
  rw [hx] at hs
  have hlen : (codeOf l).length ≤ 30001 := by have := codeOf_len l; omega
  have hd : (dcAt l k).2.2.length ≤ 30001 := by
    unfold dcAt beside
    rw [List.length_drop]
    omega
  have hp := (step_ok x).2
  refine ⟨?_, hi.2, hi.1.w1, h3, h4, fun y hy => codeOf_bytes l y (List.mem_of_mem_drop hy)⟩
  unfold decF
  have hc : chk (dcAt l k).1 (dcAt l k).2.2.length = 0 := by
    unfold chk
    rw [if_neg (by have h := hi.2; show ¬ (stAt l k).1 < 16777216; omega), if_neg (by omega)]
  have hpr : prb (pOf x) = true := by unfold prb; simp [show 1 ≤ pOf x from hp.1, show pOf x ≤ 4095 from hp.2]
  rw [hx, if_neg (by simp [hc]), if_neg (by simp [hpr])]
  have h1' : decBit (dcAt l k).1 (dcAt l k).2.1 (pOf x) = bitOf x := h1
  have h2' : dec (dcAt l k).1 (dcAt l k).2.1 (dcAt l k).2.2 (pOf x) = dcAt l (k + 1) := by
    have e : dcAt l (k + 1) = beside (codeOf l) (encS (stAt l k) (stepOf x)) := by unfold dcAt; rw [hs]
    rw [e]
    exact h2
  rw [h1', h2']
end Go.Proofs.Ytnodnfmgklkjeaa
