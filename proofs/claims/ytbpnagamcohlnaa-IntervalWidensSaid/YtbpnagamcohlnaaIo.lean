/- The table of the rules. -/
import Derived.Test.YtbpnagamcohlnaaIn
import Derived.Test.YtbpnagamcohlnaaIf
namespace Go.Proofs.Ytbpnagamcohlnaa
open Go.RowKit
set_option linter.unusedVariables false


def rulT : List (Int × Value) := [(8, .func (.func 37) #[] #[]), (9, .func (.func 38) #[] #[]), (10, .func (.func 39) #[] #[]), (11, .func (.func 40) #[] #[]), (12, .func (.func 41) #[] #[]), (13, .func (.func 42) #[] #[]), (14, .func (.func 43) #[] #[]), (15, .func (.func 44) #[] #[]), (16, .func (.func 45) #[] #[]), (17, .func (.func 46) #[] #[]), (18, .func (.func 47) #[] #[]), (19, .func (.func 48) #[] #[]), (20, .func (.func 49) #[] #[])]
theorem rules_any (w : World) :
    Calls Try.prog 30 #[] w fun e w' => e = .returned (.map (some w.heap.size)) ∧ w.alloc (tblObj rulT) = w' := by
  have hmm : ∀ t w, (Instr.makeMap t none).run Try.prog w = .ok (.map (some w.heap.size)) (w.alloc (tblObj [])) := fun _ _ => rfl
  go_enter Try.func30, Try.ntmps30
  go_wp2_with fail
  iterate 13 (rw [run_insert Try.underlying53 Try.underlying3 _ _ _ (by rfl)]; go_wp2_with fail)
  go_ret
  exact ⟨rfl, rfl⟩
theorem rul_look (w : World) (k : Int) (v : Value) (h : look k rulT = some v) : (Instr.lookup 53 (.map (some w.heap.size)) (.int .i64 k) true).run Try.prog (w.alloc (tblObj rulT)) = .ok (.tuple #[v, .bool true]) (w.alloc (tblObj rulT)) :=
  run_look Try.underlying53 Try.underlying3 rulT (tbl_at w rulT) k v h
theorem rul_none (w : World) (k : Int) (h : k < 8 ∨ 20 < k) : (Instr.lookup 53 (.map (some w.heap.size)) (.int .i64 k) true).run Try.prog (w.alloc (tblObj rulT)) = .ok (.tuple #[.nilFunc, .bool false]) (w.alloc (tblObj rulT)) :=
  run_look_none Try.underlying53 Try.underlying3 rulT (tbl_at w rulT) k .nilFunc rfl (look_none (by simp only [rulT, List.mem_cons, List.not_mem_nil, or_false]; rintro p (rfl | rfl | rfl | rfl | rfl | rfl | rfl | rfl | rfl | rfl | rfl | rfl | rfl) <;> simp <;> omega))
end Go.Proofs.Ytbpnagamcohlnaa
