/- Steps, and the code of steps. -/
import Derived.Test.YtnodnfmgklkjeaaCv
import Derived.Test.YtnodnfmgklkjeaaCr
namespace Go.Proofs.Ytnodnfmgklkjeaa
open Go.RowKit
set_option linter.unusedVariables false
attribute [local go_sem ↓] Go.wp_at_zero Go.wp_at_succ

/-- The bit and the probability of a step. -/
def bitOf (x : Bool × Int) : Int := if x.1 then 1 else 0
def pOf (x : Bool × Int) : Int := 1 + x.2 % 4095
def stepOf (x : Bool × Int) : Int × Int := (bitOf x, pOf x)
theorem step_ok (x : Bool × Int) : Step (stepOf x) := by
  refine ⟨?_, ?_, ?_⟩
  · show bitOf x = 0 ∨ bitOf x = 1
    unfold bitOf; split <;> simp
  · show 1 ≤ 1 + x.2 % 4095; omega
  · show 1 + x.2 % 4095 ≤ 4095; omega

theorem bit_any (x : Bool × Int) (w : World) :
    Calls Try.prog 31 #[.agg #[.bool x.1, .int .u16 x.2]] w fun e w' => e = .returned (.int .i64 (bitOf x)) ∧ Ext w w' := by
  obtain ⟨b, n⟩ := x
  cases b
  · go_enter Try.func31, Try.ntmps31
    go_wp2_with fail
    go_ret
    exact ⟨rfl, (Ext.refl _).alloc _⟩
  · go_enter Try.func31, Try.ntmps31
    go_wp2_with fail
    go_ret
    exact ⟨rfl, (Ext.refl _).alloc _⟩

theorem p_any (x : Bool × Int) (h0 : 0 ≤ x.2) (h1 : x.2 ≤ 65535) (w : World) :
    Calls Try.prog 30 #[.agg #[.bool x.1, .int .u16 x.2]] w fun e w' => e = .returned (.int .i64 (pOf x)) ∧ Ext w w' := by
  obtain ⟨b, n⟩ := x
  go_enter Try.func30, Try.ntmps30
  go_wp2_with fail
  go_ret
  trace_state
  exact ⟨ret_int (by unfold pOf; rfl), (Ext.refl _).alloc _⟩

end Go.Proofs.Ytnodnfmgklkjeaa
