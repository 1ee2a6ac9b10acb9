/- Layer 18: an error that leaves, and the deferred call that takes it. -/
import Derived.Test.YtcnbljohhajkhaaE
import Derived.Test.YtcnbljohhajkhaaM
import Derived.Test.YtcnbljohhajkhaaMb
import Derived.Test.YtcnbljohhajkhaaRows
import Derived.WalkKit
import Derived.ProofKit
import Derived.Defers
import Derived.Recover
namespace Go.Proofs.Ytcnbljohhajkhaa
open Go.RowKit
set_option linter.unusedVariables false
set_option linter.unusedSimpArgs false
attribute [local go_sem ↓] Go.wp_at_zero Go.wp_at_succ

/-- The panic of an error with its place. -/
def fail (p e : Int) : Ending := .panicked [{ v := .iface 71 (.agg #[.int .i64 p, .int .i64 e]), recovered := false }]
theorem demand_true (p e : Int) (w : World) : Calls Try.prog 32 #[.bool true, .int .i64 p, .int .i64 e] w fun x w' => x = .returned (.tuple #[]) ∧ w' = w := by
  go_enter Try.func32, Try.ntmps32
  go_wp2
  go_end0
  exact ⟨rfl, rfl⟩
theorem demand_false (p e : Int) (w : World) : Calls Try.prog 32 #[.bool false, .int .i64 p, .int .i64 e] w fun x w' => x = fail p e ∧ w' = w := by
  go_enter Try.func32, Try.ntmps32
  go_wp2
  exact ⟨rfl, rfl, rfl⟩
theorem opens_any (x : Int) (w : World) : Calls Try.prog 40 #[.int .i64 x] w fun y w' => y = .returned (.bool (decide (x = 27) || decide (x = 29))) ∧ w' = w := by
  go_enter Try.func40, Try.ntmps40
  by_cases h1 : x = 27 <;> by_cases h2 : x = 29 <;> (first | (exfalso; omega) | skip) <;> (go_wp2; go_ret; simp [h1, h2])
@[local go_sem] theorem asF (v : Value) (w : World) : (Instr.typeAssert (.iface 71 v) 20 71 true).run Try.prog w = .ok (.tuple #[v, .bool true]) w := by kernel_rfl
theorem wp_hide {P : Program} {c : Code} {a : Act} {w : World} {Q : Exit → Act → World → Prop} (h : ∀ K : Exit → Act → World → Prop, (∀ e a w, Q e a w → K e a w) → c.wp P K a w) : c.wp P Q a w := h Q (fun _ _ _ h => h)
theorem rescue_panic (p q : Nat) (a b x0 y0 : Int) (w : World) (hp : w.cell? ⟨p, 0, none⟩ = some (.int .i64 x0)) (hq : w.cell? ⟨q, 0, none⟩ = some (.int .i64 y0)) (fp : w.frozen? ⟨p, 0, none⟩ = false) (fq : w.frozen? ⟨q, 0, none⟩ = false) (hne : p ≠ q) :
    CallsD Try.prog 27 #[.pointer (some ⟨p, 0, none⟩), .pointer (some ⟨q, 0, none⟩)] (.panicking [{ v := .iface 71 (.agg #[.int .i64 a, .int .i64 b]), recovered := false }]) w fun e u' w' =>
      e = .returned (.tuple #[]) ∧ u' = .panicking [{ v := .iface 71 (.agg #[.int .i64 a, .int .i64 b]), recovered := true }] ∧ w'.cell? ⟨p, 0, none⟩ = some (.int .i64 a) ∧ w'.cell? ⟨q, 0, none⟩ = some (.int .i64 b) ∧ Chg [p, q] w w' := by
  have hpb := cell_lt hp
  have hqb := cell_lt hq
  refine callsD_of_wpS Try.func27 rfl fun c₀ cs hu => ?_
  apply wpS_seq
  apply wpS_region
  simp [wpOpsS, go_sem, recoverD, hu, Try.ntmps27, Exit.thenS]
  apply wpS_seq
  apply wpS_seq
  apply wpS_region
  simp [wpOpsS, go_sem, recoverD, Exit.thenS]
  refine wpS_cond (t := false) (by simp [Act.eval, Array.replicate]) ?_
  simp only [Bool.false_eq_true, if_false]
  refine wpS_of_wp (wp_skip ?_)
  simp only [Exit.thenS]
  apply wpS_seq
  apply wpS_region
  simp [wpOpsS, go_sem, Array.replicate]
  simp only [Exit.thenS]
  apply wpS_seq
  apply wpS_seq
  apply wpS_region
  simp [wpOpsS, go_sem]
  simp only [Exit.thenS]
  refine wpS_cond (t := false) (by simp [Act.eval]) ?_
  simp only [Bool.false_eq_true, if_false]
  refine wpS_of_wp (wp_skip ?_)
  simp only [Exit.thenS]
  refine wpS_of_wp (wp_hide fun KK hKK => ?_)
  have g1 : Ext w (w.alloc (Obj.cells #[Value.int IntKind.i64 a, Value.int IntKind.i64 b] 71)) := (Ext.refl w).alloc _
  have n0 : Blk (w.alloc (Obj.cells #[Value.int IntKind.i64 a, Value.int IntKind.i64 b] 71)) w.heap.size 71 [.int .i64 a, .int .i64 b] := Blk.new w [.int .i64 a, .int .i64 b] _
  have hp1 := g1.cell hp
  have hq1 := g1.cell hq
  have fp1 := (Chg.of_ext [] g1).frozen (by simp) hp fp
  have fq1 := (Chg.of_ext [] g1).frozen (by simp) hq fq
  have m0 := n0.cell 0 _ rfl
  have m1 := n0.cell 1 _ rfl
  obtain ⟨s, hs⟩ : ∃ s, w.heap.size = s := ⟨_, rfl⟩
  rw [hs] at n0 m0 m1 hpb hqb ⊢
  generalize w.alloc (Obj.cells #[Value.int IntKind.i64 a, Value.int IntKind.i64 b] 71) = w1 at *
  have hps : ¬ p = s := by omega
  have hqs : ¬ q = s := by omega
  have hsp : ¬ s = p := by omega
  have hsq : ¬ s = q := by omega
  have hqp : ¬ q = p := fun h => hne h.symm
  clear hp hq fp fq n0
  go_region
  refine hKK _ _ _ ⟨rfl, _, rfl, .tuple #[], by simp [results, Try.f27, go_sem], rfl, rfl, ?_, ?_, ?_⟩
  · rw [World.cell?_drew, World.cell?_setCell_far _ ⟨q, 0, none⟩ ⟨p, 0, none⟩ _ hqp]
    exact World.cell?_setCell_same' _ _ _ (by rw [hp1]; rfl)
  · rw [World.cell?_drew]
    exact World.cell?_setCell_same' _ _ _ (by rw [World.cell?_setCell_far _ ⟨p, 0, none⟩ ⟨q, 0, none⟩ _ hne, hq1]; rfl)
  · exact (((Chg.of_ext _ g1).setCell (by simp) _).setCell (by simp) _).drew
theorem rescue_idle (p q : Addr) (w : World) :
    CallsD Try.prog 27 #[.pointer (some p), .pointer (some q)] .returning w fun e u' w' => e = .returned (.tuple #[]) ∧ u' = .returning ∧ w' = w := by
  refine callsD_of_wpS Try.func27 rfl fun c₀ cs hu => ?_
  apply wpS_seq
  apply wpS_region
  simp [wpOpsS, go_sem, recoverD, hu, Try.ntmps27, Exit.thenS]
  apply wpS_seq
  apply wpS_seq
  apply wpS_region
  simp [wpOpsS, go_sem]
  simp only [Exit.thenS]
  refine wpS_cond (t := true) (by simp [Act.eval, Array.replicate]) ?_
  simp only [if_true]
  refine wpS_of_wp (wp_ret ?_)
  simp only [Exit.thenS]
  cases c₀
  simp_all [bodyPostS, results, Try.f27, go_sem]
end Go.Proofs.Ytcnbljohhajkhaa
