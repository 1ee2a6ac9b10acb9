/- The functions of layer 15's arithmetic, as a table. -/
import Derived.Test.YtchkbidekmaaiaaRows
import Derived.Test.YtchkbidekmaaiaaT
import Derived.Deep.QuietTactic
import Derived.BigQuiet
import Derived.Outline
namespace Go.Proofs.Ytchkbidekmaaiaa
open Go.RowKit
set_option linter.unusedVariables false


def combT : List (Int × Value) := [(8, .func (.func 48) #[] #[]), (9, .func (.func 49) #[] #[]), (10, .func (.func 50) #[] #[]), (11, .func (.func 51) #[] #[]), (12, .func (.func 52) #[] #[]), (13, .func (.func 53) #[] #[]), (14, .func (.func 54) #[] #[]), (15, .func (.func 55) #[] #[]), (16, .func (.func 56) #[] #[]), (17, .func (.func 57) #[] #[]), (18, .func (.func 58) #[] #[]), (19, .func (.func 59) #[] #[]), (20, .func (.func 60) #[] #[]), (21, .func (.func 61) #[] #[]), (22, .func (.func 62) #[] #[]), (23, .func (.func 63) #[] #[]), (24, .func (.func 64) #[] #[]), (25, .func (.func 65) #[] #[]), (26, .func (.func 66) #[] #[])]
set_option maxRecDepth 100000 in
theorem comb_any (w : World) :
    Calls Try.prog 28 #[] w fun e w' => e = .returned (.map (some w.heap.size)) ∧ w.alloc (tblObj combT) = w' := by
  have hmm : ∀ t w, (Instr.makeMap t none).run Try.prog w = .ok (.map (some w.heap.size)) (w.alloc (tblObj [])) := fun _ _ => rfl
  go_enter Try.func28, Try.ntmps28
  go_wp2_with fail
  iterate 19 (rw [run_insert Try.underlying65 Try.underlying3 _ _ _ (by rfl)]; go_wp2_with fail)
  go_ret
  exact ⟨rfl, rfl⟩
theorem comb_look (w : World) (k : Int) (v : Value) (h : look k combT = some v) : (Instr.lookup 65 (.map (some w.heap.size)) (.int .i64 k) true).run Try.prog (w.alloc (tblObj combT)) = .ok (.tuple #[v, .bool true]) (w.alloc (tblObj combT)) :=
  run_look Try.underlying65 Try.underlying3 combT (tbl_at w combT) k v h
set_option maxRecDepth 100000 in
theorem comb_none (w : World) (k : Int) (h : k < 8 ∨ 26 < k) : (Instr.lookup 65 (.map (some w.heap.size)) (.int .i64 k) true).run Try.prog (w.alloc (tblObj combT)) = .ok (.tuple #[.nilFunc, .bool false]) (w.alloc (tblObj combT)) :=
  run_look_none Try.underlying65 Try.underlying3 combT (tbl_at w combT) k .nilFunc rfl (look_none (by simp only [combT, List.mem_cons, List.not_mem_nil, or_false]; rintro p (rfl | rfl | rfl | rfl | rfl | rfl | rfl | rfl | rfl | rfl | rfl | rfl | rfl | rfl | rfl | rfl | rfl | rfl | rfl) <;> simp <;> omega))
end Go.Proofs.Ytchkbidekmaaiaa
