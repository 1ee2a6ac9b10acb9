/- InstructionChecks, the given statement: for every input the law returns true and leaves its arguments as they were. -/
import Derived.Test.YtchkbidekmaaiaaJx
import Derived.Test.YtchkbidekmaaiaaO
import Derived.WalkKit
import Derived.ProofKit
import Derived.OpenShut
import Derived.ShutString
import Derived.ChangeOld
import Derived.Below
import Derived.Carry
import Derived.Lib.SmallJoins
import Derived.Test.YtchkbidekmaaiaaRows
namespace Go.Proofs.Ytchkbidekmaaiaa.PInstructionChecks
open Go.ChangeShapes Go.WideShapes Go.ChangeAt Go.RowKit Go.Joins
open Go.ChangeMaps (open_string shut_string)
set_option linter.unusedVariables false

theorem own : ownKnob Try.prog.godebug = none := by kernel_rfl
theorem laidOut : laidOutB Try.prog = true := by kernel_rfl

set_option maxRecDepth 100000 in
theorem lifted (os : Os) (started : os.Started) (H : Type) (enc : TypeId × Value → H) :
    ReturnsInHanded {} Try.checked os 9 .any (Rows.instructionChecksSpec.pre6 enc Try.prog Try.f9 Rows.instructionChecksRow.domain false) (Rows.instructionChecksSpec.post enc Try.prog Try.f9 false true false false) := by
  refine returnsInHanded_of_change (C := Try.checked) own started (by kernel_rfl) Try.func9
    (ChangeSpec.witness6 (enc := enc) (C := Try.checked) false ⟨#[], #[.agg #[.int .i64 0, .int .u32 0]], []⟩ 8 (by kernel_rfl) (by kernel_rfl) (by kernel_rfl) (by kernel_rfl)) ?_
  intro W base args ds gs before hval0 hW hcnd _
  have hval : ∀ (j : Nat) t v, Try.f9.params[j]? = some t → args[j]? = some v → Value.okWide Try.prog W .any base t v := hval0
  have hW' := hW
  obtain ⟨p, q, hA0, hV, rfl, hfz, hnd⟩ := hW
  have hA : DataW.TrodAll enc Try.prog W 0 (fun _ => true) true Try.f9.params.toList args.toList ds p := hA0
  rw [Try.params9] at hA hval
  obtain ⟨v0, vs0, d0, ds0, p0, q0, hargs, rfl, rfl, h0, r0⟩ := trodAll_cons hA
  obtain ⟨rfl, rfl, rfl⟩ := trodAll_nil r0
  obtain rfl : args = #[v0] := by cases args; simp_all
  obtain ⟨rfl, rfl⟩ := trodVars_none hV
  have k0 := h0
  have lt0 : ∀ x ∈ p0, x.block < W.heap.size := by obtain ⟨m, hm⟩ := k0; exact DataW.trod_lt m _ _ _ hm
  obtain ⟨c0_0, c0_1, y0_0, y0_1, m0, rfl, rfl, rfl, hy0_0, hy0_1⟩ := open_agg2 Try.underlying53 (by kernel_rfl) (show Try.prog.cellsOf 53 = 2 by kernel_rfl) (hval 0 53 v0 rfl rfl) h0
  obtain ⟨a0_0, e0_0, rfl, w0_0⟩ := DataW.trod_int Try.underlying3 hy0_0
  simp at e0_0
  subst e0_0
  have b0_0 : -9223372036854775808 ≤ a0_0 ∧ a0_0 ≤ 9223372036854775807 := bounds_i64 w0_0
  obtain ⟨a0_1, e0_1, rfl, w0_1⟩ := DataW.trod_int Try.underlying22 hy0_1
  simp at e0_1
  subst e0_1
  have b0_1 : 0 ≤ a0_1 ∧ a0_1 ≤ 4294967295 := bounds_u32 w0_1
  clear hA0 hval0
  refine (InstructionChecks_law a0_0 a0_1 b0_0.1 b0_0.2 b0_1.1 b0_1.2 W).mono fun e W' ⟨he, bel0⟩ => ?_
  have bel : Below W.heap.size W W' := bel0
  subst he
  exact ⟨_, rfl, _, _, _, [], _, [], hW', trodAll_mk1 (shut_bool Try.underlying4 _), (trodAll_cons_mk (Below.trod laidOut (by kernel_rfl) (of_decide_eq_true (by kernel_rfl)) k0 bel lt0) trodAll_mk0), rfl, bel.frame _, fun h => by cases h⟩

theorem over : Rows.instructionChecksRow.holds Try.pinned (OpenSpec.ofChange Rows.instructionChecksSpec) :=
  OpenClaim.holds_of_wide 9 Try.f9 rfl rfl rfl rfl rfl rfl rfl ⟨rfl, rfl, rfl, rfl, rfl⟩ rfl rfl rfl rfl rfl (by kernel_rfl) Try.func9 (by kernel_rfl)
    (of_decide_eq_true (by kernel_rfl)) (by unfold Func.isWrapper; first | (rw [if_pos (by decide +kernel)]; kernel_rfl) | (rw [if_neg (by decide +kernel)]; exact ⟨rfl, rfl⟩))
    (fun os started H enc _ => lifted os started H enc)

theorem proved : Rows.InstructionChecksSaid := over
#print axioms proved
end Go.Proofs.Ytchkbidekmaaiaa.PInstructionChecks
