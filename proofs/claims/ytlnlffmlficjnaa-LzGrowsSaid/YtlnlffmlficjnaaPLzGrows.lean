/- LzGrows, the given statement: for every input the law returns true and leaves its arguments as they were. -/
import Derived.Test.YtlnlffmlficjnaaLz
import Derived.Test.YtlnlffmlficjnaaQ
import Derived.Test.YtlnlffmlficjnaaO
import Derived.WalkKit
import Derived.ProofKit
import Derived.OpenShut
import Derived.ShutString
import Derived.ChangeOld
import Derived.Below
import Derived.Carry
import Derived.Lib.SmallJoins
import Derived.Test.YtlnlffmlficjnaaRows
namespace Go.Proofs.Ytlnlffmlficjnaa.PLzGrows
open Go.ChangeShapes Go.WideShapes Go.ChangeAt Go.RowKit Go.Joins
open Go.ChangeMaps (open_string shut_string)
set_option linter.unusedVariables false

theorem own : ownKnob Try.prog.godebug = none := by kernel_rfl
theorem laidOut : laidOutB Try.prog = true := by kernel_rfl

set_option maxRecDepth 100000 in
theorem lifted (os : Os) (started : os.Started) (H : Type) (enc : TypeId × Value → H) :
    ReturnsInHanded {} Try.checked os 8 .any (Rows.lzGrowsSpec.pre6 enc Try.prog Try.f8 Rows.lzGrowsRow.domain false) (Rows.lzGrowsSpec.post enc Try.prog Try.f8 false true false false) := by
  refine returnsInHanded_of_change (C := Try.checked) own started (by kernel_rfl) Try.func8
    (ChangeSpec.witness6 (enc := enc) (C := Try.checked) false ⟨#[], #[.int .u8 0, .int .u16 0, .agg #[.int .u8 0, .int .u8 0]], []⟩ 8 (by kernel_rfl) (by kernel_rfl) (by kernel_rfl) (by kernel_rfl)) ?_
  intro W base args ds gs before hval0 hW hcnd _
  have hval : ∀ (j : Nat) t v, Try.f8.params[j]? = some t → args[j]? = some v → Value.okWide Try.prog W .any base t v := hval0
  have hW' := hW
  obtain ⟨p, q, hA0, hV, rfl, hfz, hnd⟩ := hW
  have hA : DataW.TrodAll enc Try.prog W 0 (fun _ => true) true Try.f8.params.toList args.toList ds p := hA0
  rw [Try.params8] at hA hval
  obtain ⟨v0, vs0, d0, ds0, p0, q0, hargs, rfl, rfl, h0, r0⟩ := trodAll_cons hA
  obtain ⟨v1, vs1, d1, ds1, p1, q1, rfl, rfl, rfl, h1, r1⟩ := trodAll_cons r0
  obtain ⟨v2, vs2, d2, ds2, p2, q2, rfl, rfl, rfl, h2, r2⟩ := trodAll_cons r1
  obtain ⟨rfl, rfl, rfl⟩ := trodAll_nil r2
  obtain rfl : args = #[v0, v1, v2] := by cases args; simp_all
  obtain ⟨rfl, rfl⟩ := trodVars_none hV
  obtain ⟨a0, rfl, rfl, rfl, w0⟩ := open_int Try.underlying5 (hval 0 5 v0 rfl rfl) h0
  have b0 : 0 ≤ a0 ∧ a0 ≤ 255 := bounds_u8 w0
  obtain ⟨a1, rfl, rfl, rfl, w1⟩ := open_int Try.underlying40 (hval 1 40 v1 rfl rfl) h1
  have b1 : 0 ≤ a1 ∧ a1 ≤ 65535 := bounds_u16 w1
  have k2 := h2
  have lt2 : ∀ x ∈ p2, x.block < W.heap.size := by obtain ⟨m, hm⟩ := k2; exact DataW.trod_lt m _ _ _ hm
  obtain ⟨cs2, m2, rfl, sz2, op2⟩ := open_flat_arr Try.underlying41 (show Try.prog.cellsOf 5 = 1 by kernel_rfl) (show Try.prog.cellsOf 41 = 2 by kernel_rfl) (hval 2 41 v2 rfl rfl) h2
  obtain ⟨c2_0, c2_1, rfl⟩ := array_two sz2
  obtain ⟨y2_0, hy2_0⟩ := op2 0 _ rfl
  obtain ⟨a2_0, e2_0, rfl, w2_0⟩ := DataW.trod_int Try.underlying5 hy2_0
  simp at e2_0
  subst e2_0
  have b2_0 : 0 ≤ a2_0 ∧ a2_0 ≤ 255 := bounds_u8 w2_0
  obtain ⟨y2_1, hy2_1⟩ := op2 1 _ rfl
  obtain ⟨a2_1, e2_1, rfl, w2_1⟩ := DataW.trod_int Try.underlying5 hy2_1
  simp at e2_1
  subst e2_1
  have b2_1 : 0 ≤ a2_1 ∧ a2_1 ≤ 255 := bounds_u8 w2_1
  clear hA0 hval0
  refine (LzGrows_law a0 a1 a2_0 a2_1 b0.1 b0.2 b1.1 b1.2 b2_0.1 b2_0.2 b2_1.1 b2_1.2 W).mono fun e W' ⟨he, bel0⟩ => ?_
  have bel : Below W.heap.size W W' := bel0
  subst he
  exact ⟨_, rfl, _, _, _, [], _, [], hW', trodAll_mk1 (shut_bool Try.underlying4 _), (trodAll_cons_mk (shut_int Try.underlying5 w0) (trodAll_cons_mk (shut_int Try.underlying40 w1) (trodAll_cons_mk (Below.trod laidOut (by kernel_rfl) (of_decide_eq_true (by kernel_rfl)) k2 bel lt2) trodAll_mk0))), rfl, bel.frame _, fun h => by cases h⟩

theorem over : Rows.lzGrowsRow.holds Try.pinned (OpenSpec.ofChange Rows.lzGrowsSpec) :=
  OpenClaim.holds_of_wide 8 Try.f8 rfl rfl rfl rfl rfl rfl rfl ⟨rfl, rfl, rfl, rfl, rfl⟩ rfl rfl rfl rfl rfl (by kernel_rfl) Try.func8 (by kernel_rfl)
    (of_decide_eq_true (by kernel_rfl)) (by unfold Func.isWrapper; first | (rw [if_pos (by decide +kernel)]; kernel_rfl) | (rw [if_neg (by decide +kernel)]; exact ⟨rfl, rfl⟩))
    (fun os started H enc _ => lifted os started H enc)

theorem proved : Rows.LzGrowsSaid := over
#print axioms proved
end Go.Proofs.Ytlnlffmlficjnaa.PLzGrows
