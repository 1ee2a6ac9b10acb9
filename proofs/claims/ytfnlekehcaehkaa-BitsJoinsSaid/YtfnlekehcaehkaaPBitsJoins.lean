/- BitsJoins, the given statement: for every input the law returns true and leaves its arguments as they were. -/
import Derived.Test.YtfnlekehcaehkaaBzh
import Derived.Test.YtfnlekehcaehkaaQ
import Derived.Test.YtfnlekehcaehkaaO
import Derived.WalkKit
import Derived.ProofKit
import Derived.OpenShut
import Derived.ShutString
import Derived.ChangeOld
import Derived.Below
import Derived.Carry
import Derived.Lib.SmallJoins
import Derived.Test.YtfnlekehcaehkaaRows
namespace Go.Proofs.Ytfnlekehcaehkaa.PBitsJoins
open Go.ChangeShapes Go.WideShapes Go.ChangeAt Go.RowKit Go.Joins
open Go.ChangeMaps (open_string shut_string)
set_option linter.unusedVariables false

theorem own : ownKnob Try.prog.godebug = none := by kernel_rfl
theorem laidOut : laidOutB Try.prog = true := by kernel_rfl

set_option maxRecDepth 100000 in
theorem lifted (os : Os) (started : os.Started) (H : Type) (enc : TypeId × Value → H) :
    ReturnsInHanded {} Try.checked os 7 .any (Rows.bitsJoinsSpec.pre6 enc Try.prog Try.f7 Rows.bitsJoinsRow.domain false) (Rows.bitsJoinsSpec.post enc Try.prog Try.f7 false true false false) := by
  refine returnsInHanded_of_change (C := Try.checked) own started (by kernel_rfl) Try.func7
    (ChangeSpec.witness6 (enc := enc) (C := Try.checked) false ⟨#[], #[.agg #[.slice none 0 0, .int .i64 0], .agg #[.slice none 0 0, .int .i64 0], .agg #[.int .i64 0, .int .i64 0]], []⟩ 8 (by kernel_rfl) (by kernel_rfl) (by kernel_rfl) (by kernel_rfl)) ?_
  intro W base args ds gs before hval0 hW hcnd _
  have hval : ∀ (j : Nat) t v, Try.f7.params[j]? = some t → args[j]? = some v → Value.okWide Try.prog W .any base t v := hval0
  have hW' := hW
  obtain ⟨p, q, hA0, hV, rfl, hfz, hnd⟩ := hW
  have hA : DataW.TrodAll enc Try.prog W 0 (fun _ => true) true Try.f7.params.toList args.toList ds p := hA0
  rw [Try.params7] at hA hval
  obtain ⟨v0, vs0, d0, ds0, p0, q0, hargs, rfl, rfl, h0, r0⟩ := trodAll_cons hA
  obtain ⟨v1, vs1, d1, ds1, p1, q1, rfl, rfl, rfl, h1, r1⟩ := trodAll_cons r0
  obtain ⟨v2, vs2, d2, ds2, p2, q2, rfl, rfl, rfl, h2, r2⟩ := trodAll_cons r1
  obtain ⟨rfl, rfl, rfl⟩ := trodAll_nil r2
  obtain rfl : args = #[v0, v1, v2] := by cases args; simp_all
  obtain ⟨rfl, rfl⟩ := trodVars_none hV
  have k0 := h0
  have lt0 : ∀ x ∈ p0, x.block < W.heap.size := by obtain ⟨m, hm⟩ := k0; exact DataW.trod_lt m _ _ _ hm
  obtain ⟨c0_0, c0_1, y0_0, y0_1, m0, rfl, rfl, rfl, hy0_0, hy0_1⟩ := open_agg2 Try.underlying24 (by kernel_rfl) (show Try.prog.cellsOf 24 = 2 by kernel_rfl) (hval 0 24 v0 rfl rfl) h0
  obtain ⟨a0_0, len0_0, cap0_0, l0_0, e0_0, hl0_0, rd0_0, wf0_0⟩ := open_row Try.underlying22 Try.underlying5 (by kernel_rfl) hy0_0
  simp at e0_0
  subst e0_0
  subst hl0_0
  obtain ⟨a0_1, e0_1, rfl, w0_1⟩ := DataW.trod_int Try.underlying3 hy0_1
  simp at e0_1
  subst e0_1
  have b0_1 : -9223372036854775808 ≤ a0_1 ∧ a0_1 ≤ 9223372036854775807 := bounds_i64 w0_1
  have k1 := h1
  have lt1 : ∀ x ∈ p1, x.block < W.heap.size := by obtain ⟨m, hm⟩ := k1; exact DataW.trod_lt m _ _ _ hm
  obtain ⟨c1_0, c1_1, y1_0, y1_1, m1, rfl, rfl, rfl, hy1_0, hy1_1⟩ := open_agg2 Try.underlying24 (by kernel_rfl) (show Try.prog.cellsOf 24 = 2 by kernel_rfl) (hval 1 24 v1 rfl rfl) h1
  obtain ⟨a1_0, len1_0, cap1_0, l1_0, e1_0, hl1_0, rd1_0, wf1_0⟩ := open_row Try.underlying22 Try.underlying5 (by kernel_rfl) hy1_0
  simp at e1_0
  subst e1_0
  subst hl1_0
  obtain ⟨a1_1, e1_1, rfl, w1_1⟩ := DataW.trod_int Try.underlying3 hy1_1
  simp at e1_1
  subst e1_1
  have b1_1 : -9223372036854775808 ≤ a1_1 ∧ a1_1 ≤ 9223372036854775807 := bounds_i64 w1_1
  have k2 := h2
  have lt2 : ∀ x ∈ p2, x.block < W.heap.size := by obtain ⟨m, hm⟩ := k2; exact DataW.trod_lt m _ _ _ hm
  obtain ⟨cs2, m2, rfl, sz2, op2⟩ := open_flat_arr Try.underlying47 (show Try.prog.cellsOf 3 = 1 by kernel_rfl) (show Try.prog.cellsOf 47 = 2 by kernel_rfl) (hval 2 47 v2 rfl rfl) h2
  obtain ⟨c2_0, c2_1, rfl⟩ := array_two sz2
  obtain ⟨y2_0, hy2_0⟩ := op2 0 _ rfl
  obtain ⟨a2_0, e2_0, rfl, w2_0⟩ := DataW.trod_int Try.underlying3 hy2_0
  simp at e2_0
  subst e2_0
  have b2_0 : -9223372036854775808 ≤ a2_0 ∧ a2_0 ≤ 9223372036854775807 := bounds_i64 w2_0
  obtain ⟨y2_1, hy2_1⟩ := op2 1 _ rfl
  obtain ⟨a2_1, e2_1, rfl, w2_1⟩ := DataW.trod_int Try.underlying3 hy2_1
  simp at e2_1
  subst e2_1
  have b2_1 : -9223372036854775808 ≤ a2_1 ∧ a2_1 ≤ 9223372036854775807 := bounds_i64 w2_1
  clear hA0 hval0
  refine (BitsJoins_law (.slice a0_0 l0_0.length cap0_0) l0_0 a0_1 (.slice a1_0 l1_0.length cap1_0) l1_0 a1_1 a2_0 a2_1 (fun z hz => bounds_u8 (wf0_0 z hz)) b0_1.1 b0_1.2 (fun z hz => bounds_u8 (wf1_0 z hz)) b1_1.1 b1_1.2 b2_0.1 b2_0.2 b2_1.1 b2_1.2 W rd0_0 rd1_0).mono fun e W' ⟨he, bel0⟩ => ?_
  have bel : Below W.heap.size W W' := bel0
  subst he
  exact ⟨_, rfl, _, _, _, [], _, [], hW', trodAll_mk1 (shut_bool Try.underlying4 _), (trodAll_cons_mk (Below.trod laidOut (by kernel_rfl) (of_decide_eq_true (by kernel_rfl)) k0 bel lt0) (trodAll_cons_mk (Below.trod laidOut (by kernel_rfl) (of_decide_eq_true (by kernel_rfl)) k1 bel lt1) (trodAll_cons_mk (Below.trod laidOut (by kernel_rfl) (of_decide_eq_true (by kernel_rfl)) k2 bel lt2) trodAll_mk0))), rfl, bel.frame _, fun h => by cases h⟩

theorem over : Rows.bitsJoinsRow.holds Try.pinned (OpenSpec.ofChange Rows.bitsJoinsSpec) :=
  OpenClaim.holds_of_wide 7 Try.f7 rfl rfl rfl rfl rfl rfl rfl ⟨rfl, rfl, rfl, rfl, rfl⟩ rfl rfl rfl rfl rfl (by kernel_rfl) Try.func7 (by kernel_rfl)
    (of_decide_eq_true (by kernel_rfl)) (by unfold Func.isWrapper; first | (rw [if_pos (by decide +kernel)]; kernel_rfl) | (rw [if_neg (by decide +kernel)]; exact ⟨rfl, rfl⟩))
    (fun os started H enc _ => lifted os started H enc)

theorem proved : Rows.BitsJoinsSaid := over
#print axioms proved
end Go.Proofs.Ytfnlekehcaehkaa.PBitsJoins
