/- SameBytes of the reference of layer 1. -/
import Derived.Test.YthjnchjfmbblfaaGreatDoorUx
import Derived.Deep.QuietTactic
import Derived.BigQuiet
import Derived.Deep.CutRange
import Derived.Deep.DeepCutAuto
import Derived.Outline
namespace Go.Proofs.YthjnchjfmbblfaaGreatDoor
open Go.RowKit
set_option linter.unusedVariables false
attribute [local go_sem ↓] Go.wp_at_zero Go.wp_at_succ

theorem Rd8.base {w : World} {a : Option Addr} {n cap : Nat} {l : List Int} (h : Rd8 w (.slice a n cap) l) (hn : 0 < l.length) : ∃ b off, a = Option.some ⟨b, off, none⟩ := by
  obtain ⟨b, off, e, _⟩ := Rd8.some h hn
  exact ⟨b, off, e⟩

end Go.Proofs.YthjnchjfmbblfaaGreatDoor
