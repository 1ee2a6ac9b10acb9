
/- InterpreterRuns, the given statement: for every input the law returns true and leaves its arguments as they were. -/
import Derived.Test.YtgjjklajipekdaaGreatZz
import Derived.Test.YtgjjklajipekdaaGreatP
import Derived.WalkKit
import Derived.ProofKit
import Derived.OpenShut
import Derived.ShutString
import Derived.ChangeOld
import Derived.Below
import Derived.Carry
import Derived.Lib.SmallJoins
import Derived.Test.YtgjjklajipekdaaGreatRows
namespace Go.Proofs.YtgjjklajipekdaaGreat.PInterpreterRuns
open Go.ChangeShapes Go.WideShapes Go.ChangeAt Go.RowKit Go.Joins
open Go.ChangeMaps (open_string shut_string)
set_option linter.unusedVariables false

theorem own : ownKnob Tryz.prog.godebug = none := by kernel_rfl
theorem laidOut : laidOutB Tryz.prog = true := by kernel_rfl

set_option maxRecDepth 100000 in
theorem lifted (os : Os) (started : os.Started) (H : Type) (enc : TypeId × Value → H) :
    ReturnsInHanded {} Tryz.checked os 4 .any (Rows.interpreterRunsSpec.pre6 enc Tryz.prog Tryz.f4 Rows.interpreterRunsRow.domain false) (Rows.interpreterRunsSpec.post enc Tryz.prog Tryz.f4 false true false false) := by
  refine returnsInHanded_of_change (C := Tryz.checked) own started (by kernel_rfl) Tryz.func4
    (ChangeSpec.witness6 (enc := enc) (C := Tryz.checked) false ⟨#[], #[.agg #[.slice none 0 0, .int .i64 0, .slice none 0 0], .agg #[.slice none 0 0, .slice none 0 0], .agg #[.int .u32 0, .bool false, .int .i64 0]], []⟩ 8 (by kernel_rfl) (by kernel_rfl) (by kernel_rfl) (by kernel_rfl)) ?_
  intro W base args ds gs before hval0 hW hcnd _
  have hval : ∀ (j : Nat) t v, Tryz.f4.params[j]? = some t → args[j]? = some v → Value.okWide Tryz.prog W .any base t v := hval0
  have hW' := hW
  obtain ⟨p, q, hA0, hV, rfl, hfz, hnd⟩ := hW
  have hA : DataW.TrodAll enc Tryz.prog W 0 (fun _ => true) true Tryz.f4.params.toList args.toList ds p := hA0
  rw [Tryz.params4] at hA hval
  obtain ⟨v0, vs0, d0, ds0, p0, q0, hargs, rfl, rfl, h0, r0⟩ := trodAll_cons hA
  obtain ⟨v1, vs1, d1, ds1, p1, q1, rfl, rfl, rfl, h1, r1⟩ := trodAll_cons r0
  obtain ⟨v2, vs2, d2, ds2, p2, q2, rfl, rfl, rfl, h2, r2⟩ := trodAll_cons r1
  obtain ⟨rfl, rfl, rfl⟩ := trodAll_nil r2
  obtain rfl : args = #[v0, v1, v2] := by cases args; simp_all
  obtain ⟨rfl, rfl⟩ := trodVars_none hV
  have k0 := h0
  have lt0 : ∀ x ∈ p0, x.block < W.heap.size := by obtain ⟨m, hm⟩ := k0; exact DataW.trod_lt m _ _ _ hm
  obtain ⟨c0_0, c0_1, c0_2, y0_0, y0_1, y0_2, m0, rfl, rfl, rfl, hy0_0, hy0_1, hy0_2⟩ := open_agg3 Tryz.underlying25 (by kernel_rfl) (show Tryz.prog.cellsOf 25 = 3 by kernel_rfl) (hval 0 25 v0 rfl rfl) h0
  obtain ⟨a0_0', len0_0', cap0_0', l0_0, e0_0, hl0_0, rd0_0, wf0_0⟩ := open_rowsE (fun x : (Bool × Int) => ([.bool x.1, .int .i64 x.2] : List Value)) (fun x : (Bool × Int) => -9223372036854775808 ≤ x.2 ∧ x.2 ≤ 9223372036854775807) 2 Tryz.underlying22 (by kernel_rfl) (by decide) (fun _ => rfl) (fun n cs y hy => by obtain ⟨c0, c1, y0, y1, m, rfl, hy0, hy1⟩ := read_struct2 Tryz.underlying70 (by kernel_rfl) (show Tryz.prog.cellsOf 70 = 2 by kernel_rfl) hy; obtain ⟨n0, e0, _⟩ := DataW.trod_bool Tryz.underlying4 hy0; simp at e0; subst e0; obtain ⟨n1, e1, _, w1⟩ := DataW.trod_int Tryz.underlying3 hy1; simp at e1; subst e1; have b1 := bounds_i64 w1; exact ⟨(n0, n1), rfl, b1⟩) hy0_0
  simp at e0_0
  subst e0_0
  subst hl0_0
  obtain ⟨a0_1, e0_1, rfl, w0_1⟩ := DataW.trod_int Tryz.underlying3 hy0_1
  simp at e0_1
  subst e0_1
  have b0_1 : -9223372036854775808 ≤ a0_1 ∧ a0_1 ≤ 9223372036854775807 := bounds_i64 w0_1
  obtain ⟨a0_2', len0_2', cap0_2', l0_2, e0_2, hl0_2, rd0_2, wf0_2⟩ := open_rowsE (fun x : (Int × Int) => ([.int .i64 x.1, .int .u32 x.2] : List Value)) (fun x : (Int × Int) => (-9223372036854775808 ≤ x.1 ∧ x.1 ≤ 9223372036854775807) ∧ (0 ≤ x.2 ∧ x.2 ≤ 4294967295)) 2 Tryz.underlying23 (by kernel_rfl) (by decide) (fun _ => rfl) (fun n cs y hy => by obtain ⟨c0, c1, y0, y1, m, rfl, hy0, hy1⟩ := read_struct2 Tryz.underlying63 (by kernel_rfl) (show Tryz.prog.cellsOf 63 = 2 by kernel_rfl) hy; obtain ⟨n0, e0, _, w0⟩ := DataW.trod_int Tryz.underlying3 hy0; simp at e0; subst e0; have b0 := bounds_i64 w0; obtain ⟨n1, e1, _, w1⟩ := DataW.trod_int Tryz.underlying42 hy1; simp at e1; subst e1; have b1 := bounds_u32 w1; exact ⟨(n0, n1), rfl, ⟨b0, b1⟩⟩) hy0_2
  simp at e0_2
  subst e0_2
  subst hl0_2
  have k1 := h1
  have lt1 : ∀ x ∈ p1, x.block < W.heap.size := by obtain ⟨m, hm⟩ := k1; exact DataW.trod_lt m _ _ _ hm
  obtain ⟨c1_0, c1_1, y1_0, y1_1, m1, rfl, rfl, rfl, hy1_0, hy1_1⟩ := open_agg2 Tryz.underlying29 (by kernel_rfl) (show Tryz.prog.cellsOf 29 = 2 by kernel_rfl) (hval 1 29 v1 rfl rfl) h1
  obtain ⟨a1_0', len1_0', cap1_0', l1_0, e1_0, hl1_0, rd1_0, wf1_0⟩ := open_rowsE (fun x : (Value × List Int) => ([x.1] : List Value)) (fun x : (Value × List Int) => Rd W 1 x.1 x.2.length (x.2.map (Value.int .u32)) ∧ ∀ z ∈ x.2, 0 ≤ z ∧ z ≤ 4294967295) 1 Tryz.underlying26 (by kernel_rfl) (by decide) (fun _ => rfl) (fun n cs y hy => by obtain ⟨a, len, cap, zs, rfl, hl, rd, wf⟩ := open_row Tryz.underlying27 Tryz.underlying42 (by kernel_rfl) hy; subst hl; exact ⟨(.slice a zs.length cap, zs), rfl, rd, fun z hz => bounds_u32 (wf z hz)⟩) hy1_0
  simp at e1_0
  subst e1_0
  subst hl1_0
  obtain ⟨a1_1, len1_1, cap1_1, l1_1, e1_1, hl1_1, rd1_1, wf1_1⟩ := open_row Tryz.underlying27 Tryz.underlying42 (by kernel_rfl) hy1_1
  simp at e1_1
  subst e1_1
  subst hl1_1
  have k2 := h2
  have lt2 : ∀ x ∈ p2, x.block < W.heap.size := by obtain ⟨m, hm⟩ := k2; exact DataW.trod_lt m _ _ _ hm
  obtain ⟨c2_0, c2_1, c2_2, y2_0, y2_1, y2_2, m2, rfl, rfl, rfl, hy2_0, hy2_1, hy2_2⟩ := open_agg3 Tryz.underlying44 (by kernel_rfl) (show Tryz.prog.cellsOf 44 = 3 by kernel_rfl) (hval 2 44 v2 rfl rfl) h2
  obtain ⟨a2_0, e2_0, rfl, w2_0⟩ := DataW.trod_int Tryz.underlying42 hy2_0
  simp at e2_0
  subst e2_0
  have b2_0 : 0 ≤ a2_0 ∧ a2_0 ≤ 4294967295 := bounds_u32 w2_0
  obtain ⟨a2_1, e2_1, _⟩ := DataW.trod_bool Tryz.underlying4 hy2_1
  simp at e2_1
  subst e2_1
  obtain ⟨a2_2, e2_2, rfl, w2_2⟩ := DataW.trod_int Tryz.underlying3 hy2_2
  simp at e2_2
  subst e2_2
  have b2_2 : -9223372036854775808 ≤ a2_2 ∧ a2_2 ≤ 9223372036854775807 := bounds_i64 w2_2
  clear hA0 hval0
  refine (InterpreterRuns_law (.slice a0_0' l0_0.length cap0_0') l0_0 a0_1 (.slice a0_2' l0_2.length cap0_2') l0_2 (.slice a1_0' l1_0.length cap1_0') l1_0 (.slice a1_1 l1_1.length cap1_1) l1_1 a2_0 a2_1 a2_2 wf0_0 b0_1.1 b0_1.2 wf0_2 (fun z hz => bounds_u32 (wf1_1 z hz)) b2_0.1 b2_0.2 b2_2.1 b2_2.2 W rd0_0 rd0_2 rd1_0 wf1_0 rd1_1).mono fun e W' ⟨he, bel0⟩ => ?_
  have bel : Below W.heap.size W W' := bel0
  subst he
  exact ⟨_, rfl, _, _, _, [], _, [], hW', trodAll_mk1 (shut_bool Tryz.underlying4 _), (trodAll_cons_mk (Below.trod laidOut (by kernel_rfl) (of_decide_eq_true (by kernel_rfl)) k0 bel lt0) (trodAll_cons_mk (Below.trod laidOut (by kernel_rfl) (of_decide_eq_true (by kernel_rfl)) k1 bel lt1) (trodAll_cons_mk (Below.trod laidOut (by kernel_rfl) (of_decide_eq_true (by kernel_rfl)) k2 bel lt2) trodAll_mk0))), rfl, bel.frame _, fun h => by cases h⟩

theorem over : Rows.interpreterRunsRow.holds Tryz.pinned (OpenSpec.ofChange Rows.interpreterRunsSpec) :=
  OpenClaim.holds_of_wide 4 Tryz.f4 rfl rfl rfl rfl rfl rfl rfl ⟨rfl, rfl, rfl, rfl, rfl⟩ rfl rfl rfl rfl rfl (by kernel_rfl) Tryz.func4 (by kernel_rfl)
    (of_decide_eq_true (by kernel_rfl)) (by unfold Func.isWrapper; first | (rw [if_pos (by decide +kernel)]; kernel_rfl) | (rw [if_neg (by decide +kernel)]; exact ⟨rfl, rfl⟩))
    (fun os started H enc _ => lifted os started H enc)

theorem proved : Rows.InterpreterRunsSaid := over
#print axioms proved
end Go.Proofs.YtgjjklajipekdaaGreat.PInterpreterRuns
