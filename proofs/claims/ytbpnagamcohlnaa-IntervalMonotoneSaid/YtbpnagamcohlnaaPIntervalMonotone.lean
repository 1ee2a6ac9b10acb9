/- IntervalMonotone, the given statement: for every input the law returns true and leaves its arguments as they were. -/
import Derived.Test.YtbpnagamcohlnaaIld
import Derived.Test.YtbpnagamcohlnaaQ
import Derived.Test.YtbpnagamcohlnaaO
import Derived.WalkKit
import Derived.ProofKit
import Derived.OpenShut
import Derived.ShutString
import Derived.ChangeOld
import Derived.Below
import Derived.Carry
import Derived.Lib.SmallJoins
import Derived.Test.YtbpnagamcohlnaaRows
namespace Go.Proofs.Ytbpnagamcohlnaa.PIntervalMonotone
open Go.ChangeShapes Go.WideShapes Go.ChangeAt Go.RowKit Go.Joins
open Go.ChangeMaps (open_string shut_string)
set_option linter.unusedVariables false

theorem own : ownKnob Try.prog.godebug = none := by kernel_rfl
theorem laidOut : laidOutB Try.prog = true := by kernel_rfl

set_option maxRecDepth 100000 in
theorem lifted (os : Os) (started : os.Started) (H : Type) (enc : TypeId × Value → H) :
    ReturnsInHanded {} Try.checked os 4 .any (Rows.intervalMonotoneSpec.pre6 enc Try.prog Try.f4 Rows.intervalMonotoneRow.domain false) (Rows.intervalMonotoneSpec.post enc Try.prog Try.f4 false true false false) := by
  refine returnsInHanded_of_change (C := Try.checked) own started (by kernel_rfl) Try.func4
    (ChangeSpec.witness6 (enc := enc) (C := Try.checked) false ⟨#[], #[.int .u8 0, .agg #[.int .u32 0, .int .u32 0, .int .u32 0, .int .u32 0, .int .u32 0, .int .u32 0], .agg #[.int .u32 0, .int .u32 0, .int .u32 0, .int .u32 0]], []⟩ 8 (by kernel_rfl) (by kernel_rfl) (by kernel_rfl) (by kernel_rfl)) ?_
  intro W base args ds gs before hval0 hW hcnd _
  have hval : ∀ (j : Nat) t v, Try.f4.params[j]? = some t → args[j]? = some v → Value.okWide Try.prog W .any base t v := hval0
  have hW' := hW
  obtain ⟨p, q, hA0, hV, rfl, hfz, hnd⟩ := hW
  have hA : DataW.TrodAll enc Try.prog W 0 (fun _ => true) true Try.f4.params.toList args.toList ds p := hA0
  rw [Try.params4] at hA hval
  obtain ⟨v0, vs0, d0, ds0, p0, q0, hargs, rfl, rfl, h0, r0⟩ := trodAll_cons hA
  obtain ⟨v1, vs1, d1, ds1, p1, q1, rfl, rfl, rfl, h1, r1⟩ := trodAll_cons r0
  obtain ⟨v2, vs2, d2, ds2, p2, q2, rfl, rfl, rfl, h2, r2⟩ := trodAll_cons r1
  obtain ⟨rfl, rfl, rfl⟩ := trodAll_nil r2
  obtain rfl : args = #[v0, v1, v2] := by cases args; simp_all
  obtain ⟨rfl, rfl⟩ := trodVars_none hV
  obtain ⟨a0, rfl, rfl, rfl, w0⟩ := open_int Try.underlying5 (hval 0 5 v0 rfl rfl) h0
  have b0 : 0 ≤ a0 ∧ a0 ≤ 255 := bounds_u8 w0
  have k1 := h1
  have lt1 : ∀ x ∈ p1, x.block < W.heap.size := by obtain ⟨m, hm⟩ := k1; exact DataW.trod_lt m _ _ _ hm
  obtain ⟨cs1, m1, rfl, sz1, op1⟩ := open_flat Try.underlying33 (by kernel_rfl) (by kernel_rfl) (hval 1 33 v1 rfl rfl) h1
  obtain ⟨c1_0, c1_1, c1_2, c1_3, c1_4, c1_5, rfl⟩ := array_six sz1
  obtain ⟨y1_0, hy1_0⟩ := op1 0 _ _ rfl rfl
  obtain ⟨a1_0, e1_0, rfl, w1_0⟩ := DataW.trod_int Try.underlying31 hy1_0
  simp at e1_0
  subst e1_0
  have b1_0 : 0 ≤ a1_0 ∧ a1_0 ≤ 4294967295 := bounds_u32 w1_0
  obtain ⟨y1_1, hy1_1⟩ := op1 1 _ _ rfl rfl
  obtain ⟨a1_1, e1_1, rfl, w1_1⟩ := DataW.trod_int Try.underlying31 hy1_1
  simp at e1_1
  subst e1_1
  have b1_1 : 0 ≤ a1_1 ∧ a1_1 ≤ 4294967295 := bounds_u32 w1_1
  obtain ⟨y1_2, hy1_2⟩ := op1 2 _ _ rfl rfl
  obtain ⟨a1_2, e1_2, rfl, w1_2⟩ := DataW.trod_int Try.underlying31 hy1_2
  simp at e1_2
  subst e1_2
  have b1_2 : 0 ≤ a1_2 ∧ a1_2 ≤ 4294967295 := bounds_u32 w1_2
  obtain ⟨y1_3, hy1_3⟩ := op1 3 _ _ rfl rfl
  obtain ⟨a1_3, e1_3, rfl, w1_3⟩ := DataW.trod_int Try.underlying31 hy1_3
  simp at e1_3
  subst e1_3
  have b1_3 : 0 ≤ a1_3 ∧ a1_3 ≤ 4294967295 := bounds_u32 w1_3
  obtain ⟨y1_4, hy1_4⟩ := op1 4 _ _ rfl rfl
  obtain ⟨a1_4, e1_4, rfl, w1_4⟩ := DataW.trod_int Try.underlying31 hy1_4
  simp at e1_4
  subst e1_4
  have b1_4 : 0 ≤ a1_4 ∧ a1_4 ≤ 4294967295 := bounds_u32 w1_4
  obtain ⟨y1_5, hy1_5⟩ := op1 5 _ _ rfl rfl
  obtain ⟨a1_5, e1_5, rfl, w1_5⟩ := DataW.trod_int Try.underlying31 hy1_5
  simp at e1_5
  subst e1_5
  have b1_5 : 0 ≤ a1_5 ∧ a1_5 ≤ 4294967295 := bounds_u32 w1_5
  have k2 := h2
  have lt2 : ∀ x ∈ p2, x.block < W.heap.size := by obtain ⟨m, hm⟩ := k2; exact DataW.trod_lt m _ _ _ hm
  obtain ⟨cs2, m2, rfl, sz2, op2⟩ := open_flat_arr Try.underlying34 (show Try.prog.cellsOf 31 = 1 by kernel_rfl) (show Try.prog.cellsOf 34 = 4 by kernel_rfl) (hval 2 34 v2 rfl rfl) h2
  obtain ⟨c2_0, c2_1, c2_2, c2_3, rfl⟩ := array_four sz2
  obtain ⟨y2_0, hy2_0⟩ := op2 0 _ rfl
  obtain ⟨a2_0, e2_0, rfl, w2_0⟩ := DataW.trod_int Try.underlying31 hy2_0
  simp at e2_0
  subst e2_0
  have b2_0 : 0 ≤ a2_0 ∧ a2_0 ≤ 4294967295 := bounds_u32 w2_0
  obtain ⟨y2_1, hy2_1⟩ := op2 1 _ rfl
  obtain ⟨a2_1, e2_1, rfl, w2_1⟩ := DataW.trod_int Try.underlying31 hy2_1
  simp at e2_1
  subst e2_1
  have b2_1 : 0 ≤ a2_1 ∧ a2_1 ≤ 4294967295 := bounds_u32 w2_1
  obtain ⟨y2_2, hy2_2⟩ := op2 2 _ rfl
  obtain ⟨a2_2, e2_2, rfl, w2_2⟩ := DataW.trod_int Try.underlying31 hy2_2
  simp at e2_2
  subst e2_2
  have b2_2 : 0 ≤ a2_2 ∧ a2_2 ≤ 4294967295 := bounds_u32 w2_2
  obtain ⟨y2_3, hy2_3⟩ := op2 3 _ rfl
  obtain ⟨a2_3, e2_3, rfl, w2_3⟩ := DataW.trod_int Try.underlying31 hy2_3
  simp at e2_3
  subst e2_3
  have b2_3 : 0 ≤ a2_3 ∧ a2_3 ≤ 4294967295 := bounds_u32 w2_3
  clear hA0 hval0
  refine (IntervalMonotone_any a0 a1_0 a1_1 a1_2 a1_3 a1_4 a1_5 a2_0 a2_1 a2_2 a2_3 b0.1 b0.2 b1_0.1 b1_0.2 b1_1.1 b1_1.2 b1_2.1 b1_2.2 b1_3.1 b1_3.2 b1_4.1 b1_4.2 b1_5.1 b1_5.2 b2_0.1 b2_0.2 b2_1.1 b2_1.2 b2_2.1 b2_2.2 b2_3.1 b2_3.2 W).mono fun e W' ⟨he, bel0⟩ => ?_
  have bel : Below W.heap.size W W' := bel0
  subst he
  exact ⟨_, rfl, _, _, _, [], _, [], hW', trodAll_mk1 (shut_bool Try.underlying4 _), (trodAll_cons_mk (shut_int Try.underlying5 w0) (trodAll_cons_mk (Below.trod laidOut (by kernel_rfl) (of_decide_eq_true (by kernel_rfl)) k1 bel lt1) (trodAll_cons_mk (Below.trod laidOut (by kernel_rfl) (of_decide_eq_true (by kernel_rfl)) k2 bel lt2) trodAll_mk0))), rfl, bel.frame _, fun h => by cases h⟩

theorem over : Rows.intervalMonotoneRow.holds Try.pinned (OpenSpec.ofChange Rows.intervalMonotoneSpec) :=
  OpenClaim.holds_of_wide 4 Try.f4 rfl rfl rfl rfl rfl rfl rfl ⟨rfl, rfl, rfl, rfl, rfl⟩ rfl rfl rfl rfl rfl (by kernel_rfl) Try.func4 (by kernel_rfl)
    (of_decide_eq_true (by kernel_rfl)) (by unfold Func.isWrapper; first | (rw [if_pos (by decide +kernel)]; kernel_rfl) | (rw [if_neg (by decide +kernel)]; exact ⟨rfl, rfl⟩))
    (fun os started H enc _ => lifted os started H enc)

theorem proved : Rows.IntervalMonotoneSaid := over
#print axioms proved
end Go.Proofs.Ytbpnagamcohlnaa.PIntervalMonotone
