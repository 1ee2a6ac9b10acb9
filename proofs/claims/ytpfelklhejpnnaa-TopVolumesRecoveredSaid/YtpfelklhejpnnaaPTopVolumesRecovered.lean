/- TopVolumesRecovered, the given statement: for every input the law returns true and leaves its arguments as they were. -/
import Derived.Test.YtpfelklhejpnnaaHcf
import Derived.Test.YtpfelklhejpnnaaQ
import Derived.WalkKit
import Derived.ProofKit
import Derived.OpenShut
import Derived.ShutString
import Derived.ChangeOld
import Derived.Below
import Derived.Carry
import Derived.Lib.SmallJoins
import Derived.Test.YtpfelklhejpnnaaRows
namespace Go.Proofs.Ytpfelklhejpnnaa.PTopVolumesRecovered
open Go.ChangeShapes Go.WideShapes Go.ChangeAt Go.RowKit Go.Joins
open Go.ChangeMaps (open_string shut_string)
set_option linter.unusedVariables false

theorem own : ownKnob Try.prog.godebug = none := by kernel_rfl
theorem laidOut : laidOutB Try.prog = true := by kernel_rfl

set_option maxRecDepth 100000 in
theorem lifted (os : Os) (started : os.Started) (H : Type) (enc : TypeId × Value → H) :
    ReturnsInHanded {} Try.checked os 3 .any (Rows.topVolumesRecoveredSpec.pre6 enc Try.prog Try.f3 Rows.topVolumesRecoveredRow.domain false) (Rows.topVolumesRecoveredSpec.post enc Try.prog Try.f3 false true false false) := by
  refine returnsInHanded_of_change (C := Try.checked) own started (by kernel_rfl) Try.func3
    (ChangeSpec.witness6 (enc := enc) (C := Try.checked) false ⟨#[], #[.slice none 0 0, .agg #[.int .u8 0, .int .u8 0], .slice none 0 0], []⟩ 8 (by kernel_rfl) (by kernel_rfl) (by kernel_rfl) (by kernel_rfl)) ?_
  intro W base args ds gs before hval0 hW hcnd _
  have hval : ∀ (j : Nat) t v, Try.f3.params[j]? = some t → args[j]? = some v → Value.okWide Try.prog W .any base t v := hval0
  have hW' := hW
  obtain ⟨p, q, hA0, hV, rfl, hfz, hnd⟩ := hW
  have hA : DataW.TrodAll enc Try.prog W 0 (fun _ => true) true Try.f3.params.toList args.toList ds p := hA0
  rw [Try.params3] at hA hval
  obtain ⟨v0, vs0, d0, ds0, p0, q0, hargs, rfl, rfl, h0, r0⟩ := trodAll_cons hA
  obtain ⟨v1, vs1, d1, ds1, p1, q1, rfl, rfl, rfl, h1, r1⟩ := trodAll_cons r0
  obtain ⟨v2, vs2, d2, ds2, p2, q2, rfl, rfl, rfl, h2, r2⟩ := trodAll_cons r1
  obtain ⟨rfl, rfl, rfl⟩ := trodAll_nil r2
  obtain rfl : args = #[v0, v1, v2] := by cases args; simp_all
  obtain ⟨rfl, rfl⟩ := trodVars_none hV
  have k0 := h0
  have lt0 : ∀ x ∈ p0, x.block < W.heap.size := by obtain ⟨m, hm⟩ := k0; exact DataW.trod_lt m _ _ _ hm
  obtain ⟨a0, len0, cap0, rfl⟩ := okWide_slice Try.underlying22 (hval 0 22 v0 rfl rfl)
  obtain ⟨fuel0, hf0⟩ := h0
  obtain ⟨a0', len0', cap0', l0, e0, hl0, rd0, wf0⟩ := open_row Try.underlying22 Try.underlying5 (by kernel_rfl) hf0
  simp [Value.cells] at e0
  obtain ⟨rfl, rfl, rfl⟩ := e0
  subst hl0
  have k1 := h1
  have lt1 : ∀ x ∈ p1, x.block < W.heap.size := by obtain ⟨m, hm⟩ := k1; exact DataW.trod_lt m _ _ _ hm
  obtain ⟨cs1, m1, rfl, sz1, op1⟩ := open_flat_arr Try.underlying23 (show Try.prog.cellsOf 5 = 1 by kernel_rfl) (show Try.prog.cellsOf 23 = 2 by kernel_rfl) (hval 1 23 v1 rfl rfl) h1
  obtain ⟨c1_0, c1_1, rfl⟩ := array_two sz1
  obtain ⟨y1_0, hy1_0⟩ := op1 0 _ rfl
  obtain ⟨a1_0, e1_0, rfl, w1_0⟩ := DataW.trod_int Try.underlying5 hy1_0
  simp at e1_0
  subst e1_0
  have b1_0 : 0 ≤ a1_0 ∧ a1_0 ≤ 255 := bounds_u8 w1_0
  obtain ⟨y1_1, hy1_1⟩ := op1 1 _ rfl
  obtain ⟨a1_1, e1_1, rfl, w1_1⟩ := DataW.trod_int Try.underlying5 hy1_1
  simp at e1_1
  subst e1_1
  have b1_1 : 0 ≤ a1_1 ∧ a1_1 ≤ 255 := bounds_u8 w1_1
  have k2 := h2
  have lt2 : ∀ x ∈ p2, x.block < W.heap.size := by obtain ⟨m, hm⟩ := k2; exact DataW.trod_lt m _ _ _ hm
  obtain ⟨a2, len2, cap2, rfl⟩ := okWide_slice Try.underlying24 (hval 2 24 v2 rfl rfl)
  obtain ⟨fuel2, hf2⟩ := h2
  obtain ⟨a2', len2', cap2', l2, e2, hl2, rd2, wf2⟩ := open_rowsE (fun x : (Int × Int × Int × Int) => ([.int .u8 x.1, .int .u8 x.2.1, .int .u8 x.2.2.1, .int .u8 x.2.2.2] : List Value)) (fun x : (Int × Int × Int × Int) => (0 ≤ x.1 ∧ x.1 ≤ 255) ∧ (0 ≤ x.2.1 ∧ x.2.1 ≤ 255) ∧ (0 ≤ x.2.2.1 ∧ x.2.2.1 ≤ 255) ∧ (0 ≤ x.2.2.2 ∧ x.2.2.2 ≤ 255)) 4 Try.underlying24 (by kernel_rfl) (by decide) (fun _ => rfl) (fun n cs y hy => by obtain ⟨c0, c1, c2, c3, y0, y1, y2, y3, m, rfl, hy0, hy1, hy2, hy3⟩ := read_struct4 Try.underlying52 (by kernel_rfl) (show Try.prog.cellsOf 52 = 4 by kernel_rfl) hy; obtain ⟨n0, e0, _, w0⟩ := DataW.trod_int Try.underlying5 hy0; simp at e0; subst e0; have b0 := bounds_u8 w0; obtain ⟨n1, e1, _, w1⟩ := DataW.trod_int Try.underlying5 hy1; simp at e1; subst e1; have b1 := bounds_u8 w1; obtain ⟨n2, e2, _, w2⟩ := DataW.trod_int Try.underlying5 hy2; simp at e2; subst e2; have b2 := bounds_u8 w2; obtain ⟨n3, e3, _, w3⟩ := DataW.trod_int Try.underlying5 hy3; simp at e3; subst e3; have b3 := bounds_u8 w3; exact ⟨(n0, n1, n2, n3), rfl, ⟨b0, b1, b2, b3⟩⟩) hf2
  simp [Value.cells] at e2
  obtain ⟨rfl, rfl, rfl⟩ := e2
  subst hl2
  clear hA0 hval0
  refine (TopVolumesRecovered_law (.slice a0 l0.length cap0) l0 a1_0 a1_1 (.slice a2 l2.length cap2) l2 (fun z hz => bounds_u8 (wf0 z hz)) b1_0.1 b1_0.2 b1_1.1 b1_1.2 wf2 W rd0 rd2).mono fun e W' ⟨he, bel0⟩ => ?_
  have bel : Below W.heap.size W W' := bel0
  subst he
  exact ⟨_, rfl, _, _, _, [], _, [], hW', trodAll_mk1 (shut_bool Try.underlying4 _), (trodAll_cons_mk (Below.trod laidOut (by kernel_rfl) (of_decide_eq_true (by kernel_rfl)) k0 bel lt0) (trodAll_cons_mk (Below.trod laidOut (by kernel_rfl) (of_decide_eq_true (by kernel_rfl)) k1 bel lt1) (trodAll_cons_mk (Below.trod laidOut (by kernel_rfl) (of_decide_eq_true (by kernel_rfl)) k2 bel lt2) trodAll_mk0))), rfl, bel.frame _, fun h => by cases h⟩

theorem over : Rows.topVolumesRecoveredRow.holds Try.pinned (OpenSpec.ofChange Rows.topVolumesRecoveredSpec) :=
  OpenClaim.holds_of_wide 3 Try.f3 rfl rfl rfl rfl rfl rfl rfl ⟨rfl, rfl, rfl, rfl, rfl⟩ rfl rfl rfl rfl rfl (by kernel_rfl) Try.func3 (by kernel_rfl)
    (of_decide_eq_true (by kernel_rfl)) (by unfold Func.isWrapper; first | (rw [if_pos (by decide +kernel)]; kernel_rfl) | (rw [if_neg (by decide +kernel)]; exact ⟨rfl, rfl⟩))
    (fun os started H enc _ => lifted os started H enc)

theorem proved : Rows.TopVolumesRecoveredSaid := over
#print axioms proved
end Go.Proofs.Ytpfelklhejpnnaa.PTopVolumesRecovered
