/- The reference's Same. -/
import Derived.Test.YtjfdmhdmadnkoaaBj
namespace Go.Proofs.Ytjfdmhdmadnkoaa
open Go.RowKit
set_option linter.unusedVariables false
attribute [local go_sem ↓] Go.wp_at_zero Go.wp_at_succ

theorem Rd8.base {w : World} {a : Option Addr} {n cap : Nat} {l : List Int} (h : Rd8 w (.slice a n cap) l) (hn : 0 < l.length) : ∃ b off, a = Option.some ⟨b, off, none⟩ := by
  obtain ⟨b, off, e, _⟩ := Rd8.some h hn
  exact ⟨b, off, e⟩

theorem ev1 : appF [] 0 5 3 = (0, [160], 3) := by decide +kernel
theorem ev2 : appF [160] 3 1 7 = (0, [160, 64], 10) := by decide +kernel
theorem ev3 : rdF [160, 64] 10 6 4 = (0, 1) := by decide +kernel
theorem ev4 : gamF [] 0 1 = (0, [128], 1) := by decide +kernel
theorem ev5 : gamF [128] 1 2 = (0, [160], 4) := by decide +kernel
theorem ev6 : gamF [160] 4 5 = (0, [162, 128], 9) := by decide +kernel
theorem ev7 : rgF [162, 128] 9 4 = (0, 5, 9) := by decide +kernel
end Go.Proofs.Ytjfdmhdmadnkoaa
