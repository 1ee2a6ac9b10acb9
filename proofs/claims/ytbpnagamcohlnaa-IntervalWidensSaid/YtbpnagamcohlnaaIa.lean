/- The functions of layer 15's arithmetic, as a table. -/
import Derived.Test.YtbpnagamcohlnaaRows
import Derived.Test.YtbpnagamcohlnaaT
import Derived.Deep.QuietTactic
import Derived.BigQuiet
import Derived.Outline
namespace Go.Proofs.Ytbpnagamcohlnaa
open Go.RowKit
set_option linter.unusedVariables false


def combT : List (Int × Value) := [(8, .func (.func 57) #[] #[]), (9, .func (.func 58) #[] #[]), (10, .func (.func 59) #[] #[]), (11, .func (.func 60) #[] #[]), (12, .func (.func 61) #[] #[]), (13, .func (.func 62) #[] #[]), (14, .func (.func 63) #[] #[]), (15, .func (.func 64) #[] #[]), (16, .func (.func 65) #[] #[]), (17, .func (.func 66) #[] #[]), (18, .func (.func 67) #[] #[]), (19, .func (.func 68) #[] #[]), (20, .func (.func 69) #[] #[]), (21, .func (.func 70) #[] #[]), (22, .func (.func 72) #[] #[]), (23, .func (.func 73) #[] #[]), (24, .func (.func 74) #[] #[]), (25, .func (.func 75) #[] #[]), (26, .func (.func 76) #[] #[])]
theorem comb_any (w : World) :
    Calls Try.prog 50 #[] w fun e w' => e = .returned (.map (some w.heap.size)) ∧ w.alloc (tblObj combT) = w' := by
  have hmm : ∀ t w, (Instr.makeMap t none).run Try.prog w = .ok (.map (some w.heap.size)) (w.alloc (tblObj [])) := fun _ _ => rfl
  go_enter Try.func50, Try.ntmps50
  go_wp2_with fail
  iterate 19 (rw [run_insert Try.underlying65 Try.underlying3 _ _ _ (by rfl)]; go_wp2_with fail)
  go_ret
  exact ⟨rfl, rfl⟩
theorem comb_look (w : World) (k : Int) (v : Value) (h : look k combT = some v) : (Instr.lookup 65 (.map (some w.heap.size)) (.int .i64 k) true).run Try.prog (w.alloc (tblObj combT)) = .ok (.tuple #[v, .bool true]) (w.alloc (tblObj combT)) :=
  run_look Try.underlying65 Try.underlying3 combT (tbl_at w combT) k v h
theorem comb_none (w : World) (k : Int) (h : k < 8 ∨ 26 < k) : (Instr.lookup 65 (.map (some w.heap.size)) (.int .i64 k) true).run Try.prog (w.alloc (tblObj combT)) = .ok (.tuple #[.nilFunc, .bool false]) (w.alloc (tblObj combT)) :=
  run_look_none Try.underlying65 Try.underlying3 combT (tbl_at w combT) k .nilFunc rfl (look_none (by simp only [combT, List.mem_cons, List.not_mem_nil, or_false]; rintro p (rfl | rfl | rfl | rfl | rfl | rfl | rfl | rfl | rfl | rfl | rfl | rfl | rfl | rfl | rfl | rfl | rfl | rfl | rfl) <;> simp <;> omega))
end Go.Proofs.Ytbpnagamcohlnaa
