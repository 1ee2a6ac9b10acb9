/- TopProgramsWritten, the given statement: for every input the law returns true and leaves its arguments as they were. -/
import Derived.Test.YthjnchjfmbblfaaGreatDoorUzz
import Derived.Test.YthjnchjfmbblfaaGreatDoorP
import Derived.WalkKit
import Derived.ProofKit
import Derived.OpenShut
import Derived.ShutString
import Derived.ChangeOld
import Derived.Below
import Derived.Carry
import Derived.Lib.SmallJoins
import Derived.Test.YthjnchjfmbblfaaGreatDoorRows
import Derived.Test.YthjnchjfmbblfaaGreatDoorCa
import Derived.Test.YthjnchjfmbblfaaGreatDoorTie
import Derived.Test.YthjnchjfmbblfaaGreatDoorCards
import Derived.SevenTiedAt
namespace Go.Proofs.YthjnchjfmbblfaaGreatDoor.PTopProgramsWritten
open Go.ChangeShapes Go.WideShapes Go.ChangeAt Go.RowKit Go.Joins
open Go.ChangeMaps (open_string shut_string)
set_option linter.unusedVariables false

theorem own : ownKnob Tryz.prog.godebug = none := by kernel_rfl
theorem laidOut : laidOutB Tryz.prog = true := by kernel_rfl

set_option maxRecDepth 100000 in
theorem lifted (os : Os) (started : os.Started) (H : Type) (enc : TypeId × Value → H) :
    ReturnsInHanded {} Tryz.checked os 5 .any (fun w args => (Rows.topProgramsWrittenSpec.pre enc Tryz.prog Tryz.f5 [] false w args ∧ laidMetH Tryz.prog lst w) ∧ sizedMet enc Tryz.prog Tryz.f5 (OpenSpec.ofChange Rows.topProgramsWrittenSpec) false w args) (Rows.topProgramsWrittenSpec.post enc Tryz.prog Tryz.f5 false true false false) := by
  refine returnsInHanded_of_change_and (C := Tryz.checked) (X := fun w _ => laidMetH Tryz.prog lst w) (fun _ _ _ hh h => h.of_heap hh) own started (by kernel_rfl) Tryz.func5
    (ChangeSpec.witness_shaped (enc := enc) (C := Tryz.checked) (os := os) (X := fun w _ => laidMetH Tryz.prog lst w) false (World.doorLaid Tryz.prog 62 os) #[.agg #[.slice none 0 0, .int .i64 0, .slice none 0 0], .slice none 0 0] 8 rfl (World.shaped_of_RefB (by kernel_rfl) (by kernel_rfl)) (by kernel_rfl) (by kernel_rfl) (by kernel_rfl) (door_met os _)) ?_
  intro W base args ds gs before hval0 hW _ _ hL _
  have hval : ∀ (j : Nat) t v, Tryz.f5.params[j]? = some t → args[j]? = some v → Value.okWide Tryz.prog W .any base t v := hval0
  have hW' := hW
  obtain ⟨p, q, hA0, hV, rfl, hfz, hnd⟩ := hW
  have hA : DataW.TrodAll enc Tryz.prog W 0 (fun _ => true) true Tryz.f5.params.toList args.toList ds p := hA0
  rw [Tryz.params5] at hA hval
  obtain ⟨v0, vs0, d0, ds0, p0, q0, hargs, rfl, rfl, h0, r0⟩ := trodAll_cons hA
  obtain ⟨v1, vs1, d1, ds1, p1, q1, rfl, rfl, rfl, h1, r1⟩ := trodAll_cons r0
  obtain ⟨rfl, rfl, rfl⟩ := trodAll_nil r1
  obtain rfl : args = #[v0, v1] := by cases args; simp_all
  obtain ⟨rfl, rfl⟩ := trodVars_none hV
  have k0 := h0
  have lt0 : ∀ x ∈ p0, x.block < W.heap.size := by obtain ⟨m, hm⟩ := k0; exact DataW.trod_lt m _ _ _ hm
  obtain ⟨c0_0, c0_1, c0_2, y0_0, y0_1, y0_2, m0, rfl, rfl, rfl, hy0_0, hy0_1, hy0_2⟩ := open_agg3 Tryz.underlying25 (by kernel_rfl) (show Tryz.prog.cellsOf 25 = 3 by kernel_rfl) (hval 0 25 v0 rfl rfl) h0
  obtain ⟨a0_0', len0_0', cap0_0', l0_0, e0_0, hl0_0, rd0_0, wf0_0⟩ := open_rowsE (fun x : (Bool × Int) => ([.bool x.1, .int .i64 x.2] : List Value)) (fun x : (Bool × Int) => -9223372036854775808 ≤ x.2 ∧ x.2 ≤ 9223372036854775807) 2 Tryz.underlying22 (by kernel_rfl) (by decide) (fun _ => rfl) (fun n cs y hy => by obtain ⟨c0, c1, y0, y1, m, rfl, hy0, hy1⟩ := read_struct2 Tryz.underlying63 (by kernel_rfl) (show Tryz.prog.cellsOf 63 = 2 by kernel_rfl) hy; obtain ⟨n0, e0, _⟩ := DataW.trod_bool Tryz.underlying4 hy0; simp at e0; subst e0; obtain ⟨n1, e1, _, w1⟩ := DataW.trod_int Tryz.underlying3 hy1; simp at e1; subst e1; have b1 := bounds_i64 w1; exact ⟨(n0, n1), rfl, b1⟩) hy0_0
  simp at e0_0
  subst e0_0
  subst hl0_0
  obtain ⟨a0_1, e0_1, rfl, w0_1⟩ := DataW.trod_int Tryz.underlying3 hy0_1
  simp at e0_1
  subst e0_1
  have b0_1 : -9223372036854775808 ≤ a0_1 ∧ a0_1 ≤ 9223372036854775807 := bounds_i64 w0_1
  obtain ⟨a0_2', len0_2', cap0_2', l0_2, e0_2, hl0_2, rd0_2, wf0_2⟩ := open_rowsE (fun x : (Int × Int) => ([.int .i64 x.1, .int .u32 x.2] : List Value)) (fun x : (Int × Int) => (-9223372036854775808 ≤ x.1 ∧ x.1 ≤ 9223372036854775807) ∧ (0 ≤ x.2 ∧ x.2 ≤ 4294967295)) 2 Tryz.underlying23 (by kernel_rfl) (by decide) (fun _ => rfl) (fun n cs y hy => by obtain ⟨c0, c1, y0, y1, m, rfl, hy0, hy1⟩ := read_struct2 Tryz.underlying56 (by kernel_rfl) (show Tryz.prog.cellsOf 56 = 2 by kernel_rfl) hy; obtain ⟨n0, e0, _, w0⟩ := DataW.trod_int Tryz.underlying3 hy0; simp at e0; subst e0; have b0 := bounds_i64 w0; obtain ⟨n1, e1, _, w1⟩ := DataW.trod_int Tryz.underlying54 hy1; simp at e1; subst e1; have b1 := bounds_u32 w1; exact ⟨(n0, n1), rfl, ⟨b0, b1⟩⟩) hy0_2
  simp at e0_2
  subst e0_2
  subst hl0_2
  have k1 := h1
  have lt1 : ∀ x ∈ p1, x.block < W.heap.size := by obtain ⟨m, hm⟩ := k1; exact DataW.trod_lt m _ _ _ hm
  obtain ⟨a1, len1, cap1, rfl⟩ := okWide_slice Tryz.underlying36 (hval 1 36 v1 rfl rfl)
  obtain ⟨fuel1, hf1⟩ := h1
  obtain ⟨a1', len1', cap1', l1, e1, hl1, rd1, wf1⟩ := open_row Tryz.underlying36 Tryz.underlying5 (by kernel_rfl) hf1
  simp [Value.cells] at e1
  obtain ⟨rfl, rfl, rfl⟩ := e1
  subst hl1
  clear hA0 hval0
  obtain ⟨hE, hT⟩ := of_lst hL
  refine (TopProgramsWritten_law (.slice a0_0' l0_0.length cap0_0') l0_0 a0_1 (.slice a0_2' l0_2.length cap0_2') l0_2 (.slice a1 l1.length cap1) l1 wf0_0 b0_1.1 b0_1.2 wf0_2 (fun z hz => bounds_u8 (wf1 z hz)) W rd0_0 rd0_2 rd1 hE hT).mono fun e W' ⟨he, bel0⟩ => ?_
  have bel : Below W.heap.size W W' := bel0
  subst he
  exact ⟨_, rfl, _, _, _, [], _, [], hW', trodAll_mk1 (shut_bool Tryz.underlying4 _), (trodAll_cons_mk (Below.trod laidOut (by kernel_rfl) (of_decide_eq_true (by kernel_rfl)) k0 bel lt0) (trodAll_cons_mk (Below.trod laidOut (by kernel_rfl) (of_decide_eq_true (by kernel_rfl)) k1 bel lt1) trodAll_mk0)), rfl, bel.frame _, fun h => by cases h⟩

theorem over : Rows.topProgramsWrittenRow.holds Tryz.pinned (OpenSpec.ofChange Rows.topProgramsWrittenSpec) :=
  OpenClaim.holds_of_wide 5 Tryz.f5 rfl rfl rfl rfl rfl rfl rfl ⟨rfl, rfl, rfl, rfl, rfl⟩ rfl rfl rfl rfl rfl (by kernel_rfl) Tryz.func5 (by kernel_rfl)
    (of_decide_eq_true (by kernel_rfl)) (by unfold Func.isWrapper; first | (rw [if_pos (by decide +kernel)]; kernel_rfl) | (rw [if_neg (by decide +kernel)]; exact ⟨rfl, rfl⟩))
    (fun os started H enc _ => lifted os started H enc)

theorem proved : Rows.TopProgramsWrittenCardSaid :=
  Claim7.holds_tied_plain_at .later [] [.data, .data, .data, .sentinel, .sentinel] true (true, "81667b670d9e4d8696cfbd8658dc7d17fb6dbe1cbdf89f98bacf3c3e402b975d") true
    over (fun _ h => by cases h) (by kernel_rfl) (fun _ h => by cases h) topProgramsWritten_row_tie rfl ⟨rfl, rfl⟩ (by kernel_rfl) rfl
    (fun f fn hf hfn => by
      obtain rfl : f = 5 := Option.some.inj ((show Tryz.prog.funcNamed "compactor/compactortop.TopProgramsWritten" = some 5 by kernel_rfl).symm.trans hf) |>.symm
      obtain rfl : fn = Tryz.f5 := (Option.some.inj (Tryz.func5.symm.trans hfn)).symm
      exact ⟨by kernel_rfl, fun j t ht => by
        rw [Tryz.params5] at ht
        have hm : t ∈ [25, 36] := by simpa using Array.mem_of_getElem? ht
        have hall : ([25, 36].all fun u => !Tryz.prog.wantsStandIn u) = true := by kernel_rfl
        exact (show Tryz.prog.wantsStandIn t = false by simpa using List.all_eq_true.1 hall t hm)⟩)
    (by kernel_rfl)
#print axioms proved
end Go.Proofs.YthjnchjfmbblfaaGreatDoor.PTopProgramsWritten
