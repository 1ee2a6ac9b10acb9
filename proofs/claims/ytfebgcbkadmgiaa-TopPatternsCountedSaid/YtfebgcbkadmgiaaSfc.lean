/- Layer 32: cmp.Or at two, the closure rest. -/
import Derived.Test.YtfebgcbkadmgiaaSfb
namespace Go.Proofs.Ytfebgcbkadmgiaa
open Go.RowKit
set_option linter.unusedVariables false
set_option linter.unusedSimpArgs false
attribute [local go_sem ↓] Go.wp_at_zero Go.wp_at_succ

set_option maxRecDepth 100000 in
theorem or2_any (a b : Int) (blk : Nat) (w : World) (h0 : w.cell? ⟨blk, 0, none⟩ = some (.int .i64 a)) (h1 : w.cell? ⟨blk, 1, none⟩ = some (.int .i64 b)) :
    Calls Try.prog 16 #[.slice (some ⟨blk, 0, none⟩) 2 2] w fun e w' => e = .returned (.int .i64 (if a ≠ 0 then a else b)) ∧ w' = w := by
  obtain ⟨R, hR⟩ : ∃ R, (if a ≠ 0 then a else b) = R := ⟨_, rfl⟩
  rw [hR]
  have hRI : Hid ((a = 0 → b = R) ∧ ((a == 0) = false → a = R)) := by
    refine ⟨fun h => ?_, fun h => ?_⟩
    · rw [← hR, if_neg (by simpa using h)]
    · rw [← hR, if_pos (by simpa using h)]
  clear hR
  go_enter Try.func16, Try.ntmps16
  go_wp2_with fail
  refine wp_loop_rounds 3 ?_
  rw [rounds_succ]
  by_cases ha : a = 0
  · have hR0 := hidden (hRI.out.1 ha)
    clear hRI
    subst ha
    by_cases hb : b = 0
    · subst hb
      go_wp2_with fail
      rw [rounds_succ]
      go_wp2_with fail
      rw [rounds_succ]
      go_wp2_with fail
      go_ret
      exact ⟨by rw [← hR0.out]; rfl, rfl⟩
    · have hb0 : (b == 0) = false := by simpa using hb
      go_wp2_with fail
      rw [rounds_succ]
      go_wp2_with fail
      go_ret
      exact ⟨by rw [← hR0.out]; rfl, rfl⟩
  · have ha0 : (a == 0) = false := by simpa using ha
    have hR0 := hidden (hRI.out.2 ha0)
    clear hRI
    go_wp2_with fail
    go_ret
    exact ⟨by rw [← hR0.out]; rfl, rfl⟩
/-- The closure rest: the rank behind the length. -/
theorem rest_any (b : List Int) (L : Nat) (rank : List Int) (i lc nc rc rb rcap : Nat) (hi : i ≤ b.length) (hL : L ≤ 131072) (hn : b.length ≤ 65536) (hrl : rank.length = b.length + 1) (w : World) (hl : w.cell? ⟨lc, 0, none⟩ = some (.int .i64 (L : Int))) (hnc : w.cell? ⟨nc, 0, none⟩ = some (.int .i64 (b.length : Int)))
    (hrc : w.cell? ⟨rc, 0, none⟩ = some (.slice (some ⟨rb, 0, none⟩) (b.length + 1) rcap)) (hrr : ∀ j, j ≤ b.length → w.cell? ⟨rb, j, none⟩ = some (.int .i64 (rank.getD j 0))) :
    Calls Try.prog 14 #[.int .i64 (i : Int), .pointer (some ⟨lc, 0, none⟩), .pointer (some ⟨nc, 0, none⟩), .pointer (some ⟨rc, 0, none⟩)] w fun e w' => e = .returned (.int .i64 (Suf.rst b L rank i)) ∧ w' = w := by
  unfold Suf.rst
  obtain ⟨n, hne⟩ : ∃ n, b.length = n := ⟨_, rfl⟩
  rw [hne] at hi hn hnc hrc hrr ⊢
  obtain ⟨R, hR⟩ : ∃ R, (if i + L ≤ n then rank.getD (i + L) 0 else 0) = R := ⟨_, rfl⟩
  rw [hR]
  have hw : IntKind.i64.wrap ((i : Int) + (L : Int)) = (i : Int) + (L : Int) := IntWalk.i64_in _ (by omega)
  go_enter Try.func14, Try.ntmps14
  by_cases h : i + L ≤ n
  · rw [if_pos h] at hR
    have h2 : (i : Int) + (L : Int) ≤ (n : Int) := by omega
    have h3 : (i : Int) + (L : Int) < (n : Int) + 1 := by omega
    have h4 := hrr (i + L) h
    rw [hR] at h4
    have h5 : ((i : Int) + (L : Int)).toNat = i + L := by omega
    have h6 : 0 ≤ (i : Int) + (L : Int) := by omega
    replace hR := hidden hR
    replace hne := hidden hne
    replace hrl := hidden hrl
    clear hrr
    go_wp2_with fail
    go_ret
    exact ⟨rfl, rfl⟩
  · rw [if_neg h] at hR
    have h2 : ¬ (i : Int) + (L : Int) ≤ (n : Int) := by omega
    replace hR := hidden hR
    replace hne := hidden hne
    replace hrl := hidden hrl
    clear hrr
    go_wp2_with fail
    go_ret
    exact ⟨by rw [← hR.out]; rfl, rfl⟩
end Go.Proofs.Ytfebgcbkadmgiaa
