/- known, Check, Name, Effect. -/
import Derived.Test.YtchkbidekmaaiaaJa
import Derived.BigQuiet
import Derived.Deep.QuietTactic
namespace Go.Proofs.Ytchkbidekmaaiaa
open Go.RowKit
set_option linter.unusedVariables false


def noOp : ByteArray × ByteArray × ByteArray × Int × Bool := (⟨#[]⟩, ⟨#[]⟩, ⟨#[]⟩, 0, false)
/-- The description of an operation. -/
def opAt (op : Int) : ByteArray × ByteArray × ByteArray × Int × Bool := if 0 ≤ op ∧ op < 36 then opsTab.getD op.toNat noOp else noOp
def isOp (op : Int) : Bool := decide (0 ≤ op ∧ op < 36)
theorem ix0 (w : World) : (Instr.index 93 (.agg opsV) (.int .i64 0)).run Try.prog w = .ok (.agg #[.string (opAt 0).1, .string (opAt 0).2.1, .string (opAt 0).2.2.1, .int .u64 (opAt 0).2.2.2.1, .bool (opAt 0).2.2.2.2]) w := by kernel_rfl
theorem ix1 (w : World) : (Instr.index 93 (.agg opsV) (.int .i64 1)).run Try.prog w = .ok (.agg #[.string (opAt 1).1, .string (opAt 1).2.1, .string (opAt 1).2.2.1, .int .u64 (opAt 1).2.2.2.1, .bool (opAt 1).2.2.2.2]) w := by kernel_rfl
theorem ix2 (w : World) : (Instr.index 93 (.agg opsV) (.int .i64 2)).run Try.prog w = .ok (.agg #[.string (opAt 2).1, .string (opAt 2).2.1, .string (opAt 2).2.2.1, .int .u64 (opAt 2).2.2.2.1, .bool (opAt 2).2.2.2.2]) w := by kernel_rfl
theorem ix3 (w : World) : (Instr.index 93 (.agg opsV) (.int .i64 3)).run Try.prog w = .ok (.agg #[.string (opAt 3).1, .string (opAt 3).2.1, .string (opAt 3).2.2.1, .int .u64 (opAt 3).2.2.2.1, .bool (opAt 3).2.2.2.2]) w := by kernel_rfl
theorem ix4 (w : World) : (Instr.index 93 (.agg opsV) (.int .i64 4)).run Try.prog w = .ok (.agg #[.string (opAt 4).1, .string (opAt 4).2.1, .string (opAt 4).2.2.1, .int .u64 (opAt 4).2.2.2.1, .bool (opAt 4).2.2.2.2]) w := by kernel_rfl
theorem ix5 (w : World) : (Instr.index 93 (.agg opsV) (.int .i64 5)).run Try.prog w = .ok (.agg #[.string (opAt 5).1, .string (opAt 5).2.1, .string (opAt 5).2.2.1, .int .u64 (opAt 5).2.2.2.1, .bool (opAt 5).2.2.2.2]) w := by kernel_rfl
theorem ix6 (w : World) : (Instr.index 93 (.agg opsV) (.int .i64 6)).run Try.prog w = .ok (.agg #[.string (opAt 6).1, .string (opAt 6).2.1, .string (opAt 6).2.2.1, .int .u64 (opAt 6).2.2.2.1, .bool (opAt 6).2.2.2.2]) w := by kernel_rfl
theorem ix7 (w : World) : (Instr.index 93 (.agg opsV) (.int .i64 7)).run Try.prog w = .ok (.agg #[.string (opAt 7).1, .string (opAt 7).2.1, .string (opAt 7).2.2.1, .int .u64 (opAt 7).2.2.2.1, .bool (opAt 7).2.2.2.2]) w := by kernel_rfl
theorem ix8 (w : World) : (Instr.index 93 (.agg opsV) (.int .i64 8)).run Try.prog w = .ok (.agg #[.string (opAt 8).1, .string (opAt 8).2.1, .string (opAt 8).2.2.1, .int .u64 (opAt 8).2.2.2.1, .bool (opAt 8).2.2.2.2]) w := by kernel_rfl
theorem ix9 (w : World) : (Instr.index 93 (.agg opsV) (.int .i64 9)).run Try.prog w = .ok (.agg #[.string (opAt 9).1, .string (opAt 9).2.1, .string (opAt 9).2.2.1, .int .u64 (opAt 9).2.2.2.1, .bool (opAt 9).2.2.2.2]) w := by kernel_rfl
theorem ix10 (w : World) : (Instr.index 93 (.agg opsV) (.int .i64 10)).run Try.prog w = .ok (.agg #[.string (opAt 10).1, .string (opAt 10).2.1, .string (opAt 10).2.2.1, .int .u64 (opAt 10).2.2.2.1, .bool (opAt 10).2.2.2.2]) w := by kernel_rfl
theorem ix11 (w : World) : (Instr.index 93 (.agg opsV) (.int .i64 11)).run Try.prog w = .ok (.agg #[.string (opAt 11).1, .string (opAt 11).2.1, .string (opAt 11).2.2.1, .int .u64 (opAt 11).2.2.2.1, .bool (opAt 11).2.2.2.2]) w := by kernel_rfl
theorem ix12 (w : World) : (Instr.index 93 (.agg opsV) (.int .i64 12)).run Try.prog w = .ok (.agg #[.string (opAt 12).1, .string (opAt 12).2.1, .string (opAt 12).2.2.1, .int .u64 (opAt 12).2.2.2.1, .bool (opAt 12).2.2.2.2]) w := by kernel_rfl
theorem ix13 (w : World) : (Instr.index 93 (.agg opsV) (.int .i64 13)).run Try.prog w = .ok (.agg #[.string (opAt 13).1, .string (opAt 13).2.1, .string (opAt 13).2.2.1, .int .u64 (opAt 13).2.2.2.1, .bool (opAt 13).2.2.2.2]) w := by kernel_rfl
theorem ix14 (w : World) : (Instr.index 93 (.agg opsV) (.int .i64 14)).run Try.prog w = .ok (.agg #[.string (opAt 14).1, .string (opAt 14).2.1, .string (opAt 14).2.2.1, .int .u64 (opAt 14).2.2.2.1, .bool (opAt 14).2.2.2.2]) w := by kernel_rfl
theorem ix15 (w : World) : (Instr.index 93 (.agg opsV) (.int .i64 15)).run Try.prog w = .ok (.agg #[.string (opAt 15).1, .string (opAt 15).2.1, .string (opAt 15).2.2.1, .int .u64 (opAt 15).2.2.2.1, .bool (opAt 15).2.2.2.2]) w := by kernel_rfl
theorem ix16 (w : World) : (Instr.index 93 (.agg opsV) (.int .i64 16)).run Try.prog w = .ok (.agg #[.string (opAt 16).1, .string (opAt 16).2.1, .string (opAt 16).2.2.1, .int .u64 (opAt 16).2.2.2.1, .bool (opAt 16).2.2.2.2]) w := by kernel_rfl
theorem ix17 (w : World) : (Instr.index 93 (.agg opsV) (.int .i64 17)).run Try.prog w = .ok (.agg #[.string (opAt 17).1, .string (opAt 17).2.1, .string (opAt 17).2.2.1, .int .u64 (opAt 17).2.2.2.1, .bool (opAt 17).2.2.2.2]) w := by kernel_rfl
theorem ix18 (w : World) : (Instr.index 93 (.agg opsV) (.int .i64 18)).run Try.prog w = .ok (.agg #[.string (opAt 18).1, .string (opAt 18).2.1, .string (opAt 18).2.2.1, .int .u64 (opAt 18).2.2.2.1, .bool (opAt 18).2.2.2.2]) w := by kernel_rfl
theorem ix19 (w : World) : (Instr.index 93 (.agg opsV) (.int .i64 19)).run Try.prog w = .ok (.agg #[.string (opAt 19).1, .string (opAt 19).2.1, .string (opAt 19).2.2.1, .int .u64 (opAt 19).2.2.2.1, .bool (opAt 19).2.2.2.2]) w := by kernel_rfl
theorem ix20 (w : World) : (Instr.index 93 (.agg opsV) (.int .i64 20)).run Try.prog w = .ok (.agg #[.string (opAt 20).1, .string (opAt 20).2.1, .string (opAt 20).2.2.1, .int .u64 (opAt 20).2.2.2.1, .bool (opAt 20).2.2.2.2]) w := by kernel_rfl
theorem ix21 (w : World) : (Instr.index 93 (.agg opsV) (.int .i64 21)).run Try.prog w = .ok (.agg #[.string (opAt 21).1, .string (opAt 21).2.1, .string (opAt 21).2.2.1, .int .u64 (opAt 21).2.2.2.1, .bool (opAt 21).2.2.2.2]) w := by kernel_rfl
theorem ix22 (w : World) : (Instr.index 93 (.agg opsV) (.int .i64 22)).run Try.prog w = .ok (.agg #[.string (opAt 22).1, .string (opAt 22).2.1, .string (opAt 22).2.2.1, .int .u64 (opAt 22).2.2.2.1, .bool (opAt 22).2.2.2.2]) w := by kernel_rfl
theorem ix23 (w : World) : (Instr.index 93 (.agg opsV) (.int .i64 23)).run Try.prog w = .ok (.agg #[.string (opAt 23).1, .string (opAt 23).2.1, .string (opAt 23).2.2.1, .int .u64 (opAt 23).2.2.2.1, .bool (opAt 23).2.2.2.2]) w := by kernel_rfl
theorem ix24 (w : World) : (Instr.index 93 (.agg opsV) (.int .i64 24)).run Try.prog w = .ok (.agg #[.string (opAt 24).1, .string (opAt 24).2.1, .string (opAt 24).2.2.1, .int .u64 (opAt 24).2.2.2.1, .bool (opAt 24).2.2.2.2]) w := by kernel_rfl
theorem ix25 (w : World) : (Instr.index 93 (.agg opsV) (.int .i64 25)).run Try.prog w = .ok (.agg #[.string (opAt 25).1, .string (opAt 25).2.1, .string (opAt 25).2.2.1, .int .u64 (opAt 25).2.2.2.1, .bool (opAt 25).2.2.2.2]) w := by kernel_rfl
theorem ix26 (w : World) : (Instr.index 93 (.agg opsV) (.int .i64 26)).run Try.prog w = .ok (.agg #[.string (opAt 26).1, .string (opAt 26).2.1, .string (opAt 26).2.2.1, .int .u64 (opAt 26).2.2.2.1, .bool (opAt 26).2.2.2.2]) w := by kernel_rfl
theorem ix27 (w : World) : (Instr.index 93 (.agg opsV) (.int .i64 27)).run Try.prog w = .ok (.agg #[.string (opAt 27).1, .string (opAt 27).2.1, .string (opAt 27).2.2.1, .int .u64 (opAt 27).2.2.2.1, .bool (opAt 27).2.2.2.2]) w := by kernel_rfl
theorem ix28 (w : World) : (Instr.index 93 (.agg opsV) (.int .i64 28)).run Try.prog w = .ok (.agg #[.string (opAt 28).1, .string (opAt 28).2.1, .string (opAt 28).2.2.1, .int .u64 (opAt 28).2.2.2.1, .bool (opAt 28).2.2.2.2]) w := by kernel_rfl
theorem ix29 (w : World) : (Instr.index 93 (.agg opsV) (.int .i64 29)).run Try.prog w = .ok (.agg #[.string (opAt 29).1, .string (opAt 29).2.1, .string (opAt 29).2.2.1, .int .u64 (opAt 29).2.2.2.1, .bool (opAt 29).2.2.2.2]) w := by kernel_rfl
theorem ix30 (w : World) : (Instr.index 93 (.agg opsV) (.int .i64 30)).run Try.prog w = .ok (.agg #[.string (opAt 30).1, .string (opAt 30).2.1, .string (opAt 30).2.2.1, .int .u64 (opAt 30).2.2.2.1, .bool (opAt 30).2.2.2.2]) w := by kernel_rfl
theorem ix31 (w : World) : (Instr.index 93 (.agg opsV) (.int .i64 31)).run Try.prog w = .ok (.agg #[.string (opAt 31).1, .string (opAt 31).2.1, .string (opAt 31).2.2.1, .int .u64 (opAt 31).2.2.2.1, .bool (opAt 31).2.2.2.2]) w := by kernel_rfl
theorem ix32 (w : World) : (Instr.index 93 (.agg opsV) (.int .i64 32)).run Try.prog w = .ok (.agg #[.string (opAt 32).1, .string (opAt 32).2.1, .string (opAt 32).2.2.1, .int .u64 (opAt 32).2.2.2.1, .bool (opAt 32).2.2.2.2]) w := by kernel_rfl
theorem ix33 (w : World) : (Instr.index 93 (.agg opsV) (.int .i64 33)).run Try.prog w = .ok (.agg #[.string (opAt 33).1, .string (opAt 33).2.1, .string (opAt 33).2.2.1, .int .u64 (opAt 33).2.2.2.1, .bool (opAt 33).2.2.2.2]) w := by kernel_rfl
theorem ix34 (w : World) : (Instr.index 93 (.agg opsV) (.int .i64 34)).run Try.prog w = .ok (.agg #[.string (opAt 34).1, .string (opAt 34).2.1, .string (opAt 34).2.2.1, .int .u64 (opAt 34).2.2.2.1, .bool (opAt 34).2.2.2.2]) w := by kernel_rfl
theorem ix35 (w : World) : (Instr.index 93 (.agg opsV) (.int .i64 35)).run Try.prog w = .ok (.agg #[.string (opAt 35).1, .string (opAt 35).2.1, .string (opAt 35).2.2.1, .int .u64 (opAt 35).2.2.2.1, .bool (opAt 35).2.2.2.2]) w := by kernel_rfl
theorem index_ops (op : Int) (h0 : 0 ≤ op) (h1 : op < 36) (w : World) : (Instr.index 93 (.agg opsV) (.int .i64 op)).run Try.prog w = .ok (.agg #[.string (opAt op).1, .string (opAt op).2.1, .string (opAt op).2.2.1, .int .u64 (opAt op).2.2.2.1, .bool (opAt op).2.2.2.2]) w := by
  have hc : op = 0 ∨ op = 1 ∨ op = 2 ∨ op = 3 ∨ op = 4 ∨ op = 5 ∨ op = 6 ∨ op = 7 ∨ op = 8 ∨ op = 9 ∨ op = 10 ∨ op = 11 ∨ op = 12 ∨ op = 13 ∨ op = 14 ∨ op = 15 ∨ op = 16 ∨ op = 17 ∨ op = 18 ∨ op = 19 ∨ op = 20 ∨ op = 21 ∨ op = 22 ∨ op = 23 ∨ op = 24 ∨ op = 25 ∨ op = 26 ∨ op = 27 ∨ op = 28 ∨ op = 29 ∨ op = 30 ∨ op = 31 ∨ op = 32 ∨ op = 33 ∨ op = 34 ∨ op = 35 := by omega
  rcases hc with rfl | rfl | rfl | rfl | rfl | rfl | rfl | rfl | rfl | rfl | rfl | rfl | rfl | rfl | rfl | rfl | rfl | rfl | rfl | rfl | rfl | rfl | rfl | rfl | rfl | rfl | rfl | rfl | rfl | rfl | rfl | rfl | rfl | rfl | rfl | rfl
  · exact ix0 w
  · exact ix1 w
  · exact ix2 w
  · exact ix3 w
  · exact ix4 w
  · exact ix5 w
  · exact ix6 w
  · exact ix7 w
  · exact ix8 w
  · exact ix9 w
  · exact ix10 w
  · exact ix11 w
  · exact ix12 w
  · exact ix13 w
  · exact ix14 w
  · exact ix15 w
  · exact ix16 w
  · exact ix17 w
  · exact ix18 w
  · exact ix19 w
  · exact ix20 w
  · exact ix21 w
  · exact ix22 w
  · exact ix23 w
  · exact ix24 w
  · exact ix25 w
  · exact ix26 w
  · exact ix27 w
  · exact ix28 w
  · exact ix29 w
  · exact ix30 w
  · exact ix31 w
  · exact ix32 w
  · exact ix33 w
  · exact ix34 w
  · exact ix35 w
set_option maxHeartbeats 1000000 in
theorem known_any (op : Int) (w : World) : Calls Try.prog 35 #[.int .i64 op] w fun x w' => x = .returned (.tuple #[.agg #[.string (opAt op).1, .string (opAt op).2.1, .string (opAt op).2.2.1, .int .u64 (opAt op).2.2.2.1, .bool (opAt op).2.2.2.2], .bool (isOp op)]) ∧ Ext w w' := by
  by_cases h0 : op < 0
  · rw [show opAt op = noOp by unfold opAt; exact if_neg (by omega), show isOp op = false by unfold isOp; exact decide_eq_false (by omega)]
    show Calls _ _ _ _ fun x w' => x = .returned (.tuple #[.agg #[.string ⟨#[]⟩, .string ⟨#[]⟩, .string ⟨#[]⟩, .int .u64 0, .bool false], .bool false]) ∧ Ext w w'
    go_enter Try.func35, Try.ntmps35
    go_wp2_with fail
    refine bodyPost_ret (v := .tuple #[.agg #[.string ⟨#[]⟩, .string ⟨#[]⟩, .string ⟨#[]⟩, .int .u64 0, .bool false], .bool false]) (by simp [results, Try.results35, go_sem, *]) rfl ⟨rfl, ?_⟩
    repeat' (first | exact Ext.refl _ | assumption | (with_reducible refine Ext.alloc ?_ _) | (with_reducible refine Ext.drew ?_) | (with_reducible refine Ext.drewN _ ?_) | (refine Ext.setCell ?_ (by first | exact Nat.le_refl _ | (simp; done) | (simp; omega) | omega) _) | (refine Ext.trans ?_ (by assumption)))
  by_cases h1 : 36 ≤ op
  · rw [show opAt op = noOp by unfold opAt; exact if_neg (by omega), show isOp op = false by unfold isOp; exact decide_eq_false (by omega)]
    show Calls _ _ _ _ fun x w' => x = .returned (.tuple #[.agg #[.string ⟨#[]⟩, .string ⟨#[]⟩, .string ⟨#[]⟩, .int .u64 0, .bool false], .bool false]) ∧ Ext w w'
    go_enter Try.func35, Try.ntmps35
    go_wp2_with fail
    refine bodyPost_ret (v := .tuple #[.agg #[.string ⟨#[]⟩, .string ⟨#[]⟩, .string ⟨#[]⟩, .int .u64 0, .bool false], .bool false]) (by simp [results, Try.results35, go_sem, *]) rfl ⟨rfl, ?_⟩
    repeat' (first | exact Ext.refl _ | assumption | (with_reducible refine Ext.alloc ?_ _) | (with_reducible refine Ext.drew ?_) | (with_reducible refine Ext.drewN _ ?_) | (refine Ext.setCell ?_ (by first | exact Nat.le_refl _ | (simp; done) | (simp; omega) | omega) _) | (refine Ext.trans ?_ (by assumption)))
  · rw [show isOp op = true by unfold isOp; exact decide_eq_true (by omega)]
    have hix := index_ops op (by omega) (by omega)
    obtain ⟨n, hn⟩ : ∃ n, (opAt op).1 = n := ⟨_, rfl⟩
    obtain ⟨p, hp⟩ : ∃ n, (opAt op).2.1 = n := ⟨_, rfl⟩
    obtain ⟨q, hq⟩ : ∃ n, (opAt op).2.2.1 = n := ⟨_, rfl⟩
    obtain ⟨l, hl⟩ : ∃ n, (opAt op).2.2.2.1 = n := ⟨_, rfl⟩
    obtain ⟨g, hg⟩ : ∃ n, (opAt op).2.2.2.2 = n := ⟨_, rfl⟩
    rw [hn, hp, hq, hl, hg] at hix ⊢
    clear hn hp hq hl hg
    have B0 := Blk.new w [.string ⟨#[]⟩, .string ⟨#[]⟩, .string ⟨#[]⟩, .int .u64 0, .bool false] 75
    have E0 : Ext w (w.alloc (.cells #[.string ⟨#[]⟩, .string ⟨#[]⟩, .string ⟨#[]⟩, .int .u64 0, .bool false] 75)) := (Ext.refl w).alloc _
    go_enter Try.func35, Try.ntmps35
    go_wp2_with fail
    refine (operations_any _).mono ?_
    rintro e1 w1 ⟨rfl, g1⟩
    replace B0 := B0.ext g1
    replace E0 := E0.trans g1
    have q0 := B0.cell 0 _ rfl
    have f0 := B0.frozen 0
    have q1 := B0.cell 1 _ rfl
    have f1 := B0.frozen 1
    have q2 := B0.cell 2 _ rfl
    have f2 := B0.frozen 2
    have q3 := B0.cell 3 _ rfl
    have f3 := B0.frozen 3
    have q4 := B0.cell 4 _ rfl
    have f4 := B0.frozen 4
    go_wp2_with fail
    refine bodyPost_ret (v := .tuple #[.agg #[.string n, .string p, .string q, .int .u64 l, .bool g], .bool true]) (by simp [results, Try.results35, go_sem, *]) rfl ⟨rfl, ?_⟩
    repeat' (first | exact Ext.refl _ | assumption | (with_reducible refine Ext.alloc ?_ _) | (with_reducible refine Ext.drew ?_) | (with_reducible refine Ext.drewN _ ?_) | (refine Ext.setCell ?_ (by first | exact Nat.le_refl _ | (simp; done) | (simp; omega) | omega) _) | (refine Ext.trans ?_ (by assumption)))
end Go.Proofs.Ytchkbidekmaaiaa
