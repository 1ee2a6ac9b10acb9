/- The table of the operations. -/
import Derived.Test.YthjnchjfmbblfaaGreatDoorRows
import Derived.Test.YthjnchjfmbblfaaGreatDoorMz
import Derived.Deep.WholeRow
import Derived.Laws.Rows
import Derived.Deep.MidRow
import Derived.Deep.CutRange
import Derived.Outline
import Derived.BigQuiet
import Derived.Deep.QuietTactic
namespace Go.Proofs.YthjnchjfmbblfaaGreatDoor
open Go.RowKit
set_option linter.unusedVariables false


/-- Name, what it pops, what it pushes, the first Arg that is not allowed, has it an Arg? -/
def opsTab : List (ByteArray × ByteArray × ByteArray × Int × Bool) := [(⟨#[112, 117, 115, 104]⟩, ⟨#[]⟩, ⟨#[110]⟩, 4294967296, true),
  (⟨#[108, 111, 97, 100]⟩, ⟨#[]⟩, ⟨#[110]⟩, 16, true),
  (⟨#[115, 116, 111, 114, 101]⟩, ⟨#[110]⟩, ⟨#[]⟩, 16, true),
  (⟨#[103, 101, 116]⟩, ⟨#[110]⟩, ⟨#[110]⟩, 8, true),
  (⟨#[112, 117, 116]⟩, ⟨#[110, 110]⟩, ⟨#[]⟩, 8, true),
  (⟨#[100, 117, 112]⟩, ⟨#[97]⟩, ⟨#[97, 97]⟩, 1, false),
  (⟨#[100, 114, 111, 112]⟩, ⟨#[97]⟩, ⟨#[]⟩, 1, false),
  (⟨#[115, 119, 97, 112]⟩, ⟨#[97, 98]⟩, ⟨#[98, 97]⟩, 1, false),
  (⟨#[97, 100, 100]⟩, ⟨#[110, 110]⟩, ⟨#[110]⟩, 1, false),
  (⟨#[115, 117, 98]⟩, ⟨#[110, 110]⟩, ⟨#[110]⟩, 1, false),
  (⟨#[109, 117, 108]⟩, ⟨#[110, 110]⟩, ⟨#[110]⟩, 1, false),
  (⟨#[100, 105, 118]⟩, ⟨#[110, 110]⟩, ⟨#[110]⟩, 1, false),
  (⟨#[109, 111, 100]⟩, ⟨#[110, 110]⟩, ⟨#[110]⟩, 1, false),
  (⟨#[97, 110, 100]⟩, ⟨#[110, 110]⟩, ⟨#[110]⟩, 1, false),
  (⟨#[111, 114]⟩, ⟨#[110, 110]⟩, ⟨#[110]⟩, 1, false),
  (⟨#[120, 111, 114]⟩, ⟨#[110, 110]⟩, ⟨#[110]⟩, 1, false),
  (⟨#[115, 104, 108]⟩, ⟨#[110, 110]⟩, ⟨#[110]⟩, 1, false),
  (⟨#[115, 104, 114]⟩, ⟨#[110, 110]⟩, ⟨#[110]⟩, 1, false),
  (⟨#[109, 105, 110]⟩, ⟨#[110, 110]⟩, ⟨#[110]⟩, 1, false),
  (⟨#[109, 97, 120]⟩, ⟨#[110, 110]⟩, ⟨#[110]⟩, 1, false),
  (⟨#[104, 97, 115, 104]⟩, ⟨#[110, 110]⟩, ⟨#[110]⟩, 1, false),
  (⟨#[101, 113]⟩, ⟨#[110, 110]⟩, ⟨#[116]⟩, 1, false),
  (⟨#[108, 101, 115, 115]⟩, ⟨#[110, 110]⟩, ⟨#[116]⟩, 1, false),
  (⟨#[110, 111, 116]⟩, ⟨#[116]⟩, ⟨#[116]⟩, 1, false),
  (⟨#[98, 111, 116, 104]⟩, ⟨#[116, 116]⟩, ⟨#[116]⟩, 1, false),
  (⟨#[101, 105, 116, 104, 101, 114]⟩, ⟨#[116, 116]⟩, ⟨#[116]⟩, 1, false),
  (⟨#[105, 110, 116]⟩, ⟨#[116]⟩, ⟨#[110]⟩, 1, false),
  (⟨#[105, 102]⟩, ⟨#[116]⟩, ⟨#[]⟩, 1, false),
  (⟨#[101, 108, 115, 101]⟩, ⟨#[]⟩, ⟨#[]⟩, 1, false),
  (⟨#[108, 111, 111, 112]⟩, ⟨#[110]⟩, ⟨#[]⟩, 1, false),
  (⟨#[108, 101, 97, 118, 101]⟩, ⟨#[116]⟩, ⟨#[]⟩, 1, false),
  (⟨#[101, 110, 100]⟩, ⟨#[]⟩, ⟨#[]⟩, 1, false),
  (⟨#[105, 110, 112, 117, 116]⟩, ⟨#[]⟩, ⟨#[110]⟩, 1, false),
  (⟨#[101, 110, 100, 101, 100]⟩, ⟨#[]⟩, ⟨#[116]⟩, 1, false),
  (⟨#[101, 109, 105, 116]⟩, ⟨#[110]⟩, ⟨#[]⟩, 1, false),
  (⟨#[99, 111, 110, 116, 101, 120, 116]⟩, ⟨#[110]⟩, ⟨#[]⟩, 16, true)]
def opCells (x : ByteArray × ByteArray × ByteArray × Int × Bool) : List Value := [.string x.1, .string x.2.1, .string x.2.2.1, .int .u64 x.2.2.2.1, .bool x.2.2.2.2]
def opsCells : List Value := opsTab.flatMap opCells
def opsV : Array Value := opsCells.toArray
theorem opsV_size : opsV.size = 180 := by decide +kernel
theorem calc_any (s : ByteArray) (w : World) : Calls Tryz.prog 67 #[.string s] w fun x w' => x = .returned (.agg #[.string s, .string ⟨#[110, 110]⟩, .string ⟨#[110]⟩, .int .u64 1, .bool false]) ∧ Ext w w' := by
  go_enter Tryz.func67, Tryz.ntmps67
  go_wp2_with fail
  refine bodyPost_ret (v := .agg #[.string s, .string ⟨#[110, 110]⟩, .string ⟨#[110]⟩, .int .u64 1, .bool false]) (by simp [results, Tryz.results67, go_sem]) rfl ⟨rfl, ?_⟩
  repeat' (first | exact Ext.refl _ | assumption | (with_reducible refine Ext.alloc ?_ _) | (with_reducible refine Ext.drew ?_) | (with_reducible refine Ext.drewN _ ?_) | (refine Ext.setCell ?_ (by first | exact Nat.le_refl _ | (simp; done) | (simp; omega) | omega) _) | (refine Ext.trans ?_ (by assumption)))
theorem plain_any (s p q : ByteArray) (w : World) : Calls Tryz.prog 68 #[.string s, .string p, .string q] w fun x w' => x = .returned (.agg #[.string s, .string p, .string q, .int .u64 1, .bool false]) ∧ Ext w w' := by
  go_enter Tryz.func68, Tryz.ntmps68
  go_wp2_with fail
  refine bodyPost_ret (v := .agg #[.string s, .string p, .string q, .int .u64 1, .bool false]) (by simp [results, Tryz.results68, go_sem]) rfl ⟨rfl, ?_⟩
  repeat' (first | exact Ext.refl _ | assumption | (with_reducible refine Ext.alloc ?_ _) | (with_reducible refine Ext.drew ?_) | (with_reducible refine Ext.drewN _ ?_) | (refine Ext.setCell ?_ (by first | exact Nat.le_refl _ | (simp; done) | (simp; omega) | omega) _) | (refine Ext.trans ?_ (by assumption)))
theorem wpList_run_eq {P : Program} {w : World} {ops : Array Oper} {rest : List Oper} {o : Oper} {a : Act} {Q : Exit → Act → World → Prop} {v : Value} (hg : o.guard = none) (hrun : (execOp a.eval o).run P w = .ok (.value v) w) (h : wpList P ops Q rest (a.put o.dst v) w) : wpList P ops Q (o :: rest) a w := by
  refine wpList_plain hg fun K hK => ?_
  unfold Oper.wp
  rw [hrun]
  exact hK _ _ h
theorem Ext.setCells {w : World} {b : Nat} : ∀ (vs : List Value) (o : Nat) {w1 : World}, Ext w w1 → w.heap.size ≤ b → Ext w (w1.setCells b o vs)
  | [], _, _, h, _ => h
  | v :: r, o, _, h, hb => Ext.setCells r (o + 1) (h.setCell hb v) hb
theorem Blk.there {w : World} {b : Nat} {t : TypeId} {cs : List Value} (h : Blk w b t cs) : w.there b 0 cs.length := fun j hj => by
  refine ⟨?_, ?_⟩
  · rw [Nat.zero_add, h.cell j (cs[j]'hj) (List.getElem?_eq_getElem hj)]; rfl
  · rw [Nat.zero_add]; exact h.frozen j
theorem results_cell_mid {P : Program} {fn : Func} {p : Tmp} {ty : TypeId} (h : fn.results = #[.cell p ty]) (tmps : Array Value) (w : World) (g : Nat) (cs : List Value) (d : TypeDesc)
    (hp : tmps.getD p undef = .pointer (some ⟨g, 0, none⟩)) (hg : w.rangeAt g 0 cs) (hu : P.underlying ty = some d) (hd : d.isRow = true) (hi : (P.info? ty).map (·.size) = some cs.length) :
    (results fn tmps).run P w = .ok (.agg cs.toArray) w := by
  have hp' : tmps[p]?.getD undef = .pointer (some ⟨g, 0, none⟩) := by simpa using hp
  simp [results, h, hp', asAddr, run_loadVar_mid w g 0 ty cs d hg hu hd hi]
theorem there_arr {w : World} {b : Nat} {C : Array Value} {t : TypeId} (hb : w.heap[b]? = some (.cells C t (0, 0))) : w.there b 0 C.size := fun j hj => by
  refine ⟨?_, ?_⟩
  · rw [Nat.zero_add, cell_of_row w b j C t _ hb]; simp [hj]
  · rw [Nat.zero_add]; exact frozen_of_row w b j C t hb
theorem blk_ext {w w' : World} {b : Nat} {o : Obj} (hb : w.heap[b]? = some o) (h : Ext w w') : w'.heap[b]? = some o := by
  have h' : Below w.heap.size w w' := h
  rw [h'.block b (Array.getElem?_eq_some_iff.1 hb).1]; exact hb
def zeroOp : List Value := [.string ⟨#[]⟩, .string ⟨#[]⟩, .string ⟨#[]⟩, .int .u64 0, .bool false]
def zeroOps : List Value := (List.replicate 36 zeroOp).flatten
set_option maxHeartbeats 2000000 in
set_option maxRecDepth 100000 in
theorem operations_any (w : World) : Calls Tryz.prog 43 #[] w fun x w' => x = .returned (.agg opsV) ∧ Ext w w' := by
  go_enter Tryz.func43, Tryz.ntmps43
  go_upto_region 1 with fail
  have hz : Tryz.zeroCells104.size = 180 := by kernel_rfl
  have hB : (w.alloc (.cells Tryz.zeroCells104 104)).heap[w.heap.size]? = some (.cells Tryz.zeroCells104 104 (0, 0)) := heap_alloc_new w _
  have E0 : Ext w (w.alloc (.cells Tryz.zeroCells104 104)) := (Ext.refl w).alloc _
  have hp0 : w.heap.size < (w.alloc (.cells Tryz.zeroCells104 104)).heap.size := by simp
  obtain ⟨V, hV⟩ : ∃ V, w.alloc (.cells Tryz.zeroCells104 104) = V := ⟨_, rfl⟩
  rw [hV] at hB E0 hp0 ⊢
  clear hV
  go_wp2_with (first | (go_at_call 67; refine (calc_any _ _).mono ?_; rintro e w1 ⟨rfl, hE⟩; replace E0 := E0.trans hE; replace hB := blk_ext hB hE; clear hE) | (go_at_call 68; refine (plain_any _ _ _ _).mono ?_; rintro e w1 ⟨rfl, hE⟩; replace E0 := E0.trans hE; replace hB := blk_ext hB hE; clear hE) | (refine wpList_run_eq (o := ⟨some 69, _, _, _, _, _⟩) (by rfl) (v := .agg opsV) (by kernel_rfl) ?_) | (refine wpList_store_mid (op := ⟨none, .store 104 _ _, _, _, _, _⟩) (by rfl) 104 _ _ (by rfl) w.heap.size 0 opsV (by rfl) (by rfl) (by rw [opsV_size, ← hz]; exact there_arr hB) (by rw [opsV_size]; kernel_rfl) (by decide +kernel) ?_))
  have hth : w1.there w.heap.size 0 opsV.toList.length := by
    rw [show opsV.toList.length = 180 by simpa using opsV_size, ← hz]; exact there_arr hB
  refine bodyPost_ret (v := .agg opsV) (results_cell_mid (by rfl) _ _ w.heap.size opsV.toList _ (by rfl) (World.rangeAt_setCells_same w1 w.heap.size 0 opsV.toList hth) Tryz.underlying104 (by rfl) (by rw [show opsV.toList.length = 180 by simpa using opsV_size]; kernel_rfl)) (by rfl) ⟨rfl, ?_⟩
  exact Ext.setCells _ 0 E0 (Nat.le_refl _)
end Go.Proofs.YthjnchjfmbblfaaGreatDoor

/- known, Check, Name, Effect. -/
namespace Go.Proofs.YthjnchjfmbblfaaGreatDoor
open Go.RowKit
set_option linter.unusedVariables false


def noOp : ByteArray × ByteArray × ByteArray × Int × Bool := (⟨#[]⟩, ⟨#[]⟩, ⟨#[]⟩, 0, false)
/-- The description of an operation. -/
def opAt (op : Int) : ByteArray × ByteArray × ByteArray × Int × Bool := if 0 ≤ op ∧ op < 36 then opsTab.getD op.toNat noOp else noOp
def isOp (op : Int) : Bool := decide (0 ≤ op ∧ op < 36)
theorem ix0 (w : World) : (Instr.index 104 (.agg opsV) (.int .i64 0)).run Tryz.prog w = .ok (.agg #[.string (opAt 0).1, .string (opAt 0).2.1, .string (opAt 0).2.2.1, .int .u64 (opAt 0).2.2.2.1, .bool (opAt 0).2.2.2.2]) w := by kernel_rfl
theorem ix1 (w : World) : (Instr.index 104 (.agg opsV) (.int .i64 1)).run Tryz.prog w = .ok (.agg #[.string (opAt 1).1, .string (opAt 1).2.1, .string (opAt 1).2.2.1, .int .u64 (opAt 1).2.2.2.1, .bool (opAt 1).2.2.2.2]) w := by kernel_rfl
theorem ix2 (w : World) : (Instr.index 104 (.agg opsV) (.int .i64 2)).run Tryz.prog w = .ok (.agg #[.string (opAt 2).1, .string (opAt 2).2.1, .string (opAt 2).2.2.1, .int .u64 (opAt 2).2.2.2.1, .bool (opAt 2).2.2.2.2]) w := by kernel_rfl
theorem ix3 (w : World) : (Instr.index 104 (.agg opsV) (.int .i64 3)).run Tryz.prog w = .ok (.agg #[.string (opAt 3).1, .string (opAt 3).2.1, .string (opAt 3).2.2.1, .int .u64 (opAt 3).2.2.2.1, .bool (opAt 3).2.2.2.2]) w := by kernel_rfl
theorem ix4 (w : World) : (Instr.index 104 (.agg opsV) (.int .i64 4)).run Tryz.prog w = .ok (.agg #[.string (opAt 4).1, .string (opAt 4).2.1, .string (opAt 4).2.2.1, .int .u64 (opAt 4).2.2.2.1, .bool (opAt 4).2.2.2.2]) w := by kernel_rfl
theorem ix5 (w : World) : (Instr.index 104 (.agg opsV) (.int .i64 5)).run Tryz.prog w = .ok (.agg #[.string (opAt 5).1, .string (opAt 5).2.1, .string (opAt 5).2.2.1, .int .u64 (opAt 5).2.2.2.1, .bool (opAt 5).2.2.2.2]) w := by kernel_rfl
theorem ix6 (w : World) : (Instr.index 104 (.agg opsV) (.int .i64 6)).run Tryz.prog w = .ok (.agg #[.string (opAt 6).1, .string (opAt 6).2.1, .string (opAt 6).2.2.1, .int .u64 (opAt 6).2.2.2.1, .bool (opAt 6).2.2.2.2]) w := by kernel_rfl
theorem ix7 (w : World) : (Instr.index 104 (.agg opsV) (.int .i64 7)).run Tryz.prog w = .ok (.agg #[.string (opAt 7).1, .string (opAt 7).2.1, .string (opAt 7).2.2.1, .int .u64 (opAt 7).2.2.2.1, .bool (opAt 7).2.2.2.2]) w := by kernel_rfl
theorem ix8 (w : World) : (Instr.index 104 (.agg opsV) (.int .i64 8)).run Tryz.prog w = .ok (.agg #[.string (opAt 8).1, .string (opAt 8).2.1, .string (opAt 8).2.2.1, .int .u64 (opAt 8).2.2.2.1, .bool (opAt 8).2.2.2.2]) w := by kernel_rfl
theorem ix9 (w : World) : (Instr.index 104 (.agg opsV) (.int .i64 9)).run Tryz.prog w = .ok (.agg #[.string (opAt 9).1, .string (opAt 9).2.1, .string (opAt 9).2.2.1, .int .u64 (opAt 9).2.2.2.1, .bool (opAt 9).2.2.2.2]) w := by kernel_rfl
theorem ix10 (w : World) : (Instr.index 104 (.agg opsV) (.int .i64 10)).run Tryz.prog w = .ok (.agg #[.string (opAt 10).1, .string (opAt 10).2.1, .string (opAt 10).2.2.1, .int .u64 (opAt 10).2.2.2.1, .bool (opAt 10).2.2.2.2]) w := by kernel_rfl
theorem ix11 (w : World) : (Instr.index 104 (.agg opsV) (.int .i64 11)).run Tryz.prog w = .ok (.agg #[.string (opAt 11).1, .string (opAt 11).2.1, .string (opAt 11).2.2.1, .int .u64 (opAt 11).2.2.2.1, .bool (opAt 11).2.2.2.2]) w := by kernel_rfl
theorem ix12 (w : World) : (Instr.index 104 (.agg opsV) (.int .i64 12)).run Tryz.prog w = .ok (.agg #[.string (opAt 12).1, .string (opAt 12).2.1, .string (opAt 12).2.2.1, .int .u64 (opAt 12).2.2.2.1, .bool (opAt 12).2.2.2.2]) w := by kernel_rfl
theorem ix13 (w : World) : (Instr.index 104 (.agg opsV) (.int .i64 13)).run Tryz.prog w = .ok (.agg #[.string (opAt 13).1, .string (opAt 13).2.1, .string (opAt 13).2.2.1, .int .u64 (opAt 13).2.2.2.1, .bool (opAt 13).2.2.2.2]) w := by kernel_rfl
theorem ix14 (w : World) : (Instr.index 104 (.agg opsV) (.int .i64 14)).run Tryz.prog w = .ok (.agg #[.string (opAt 14).1, .string (opAt 14).2.1, .string (opAt 14).2.2.1, .int .u64 (opAt 14).2.2.2.1, .bool (opAt 14).2.2.2.2]) w := by kernel_rfl
theorem ix15 (w : World) : (Instr.index 104 (.agg opsV) (.int .i64 15)).run Tryz.prog w = .ok (.agg #[.string (opAt 15).1, .string (opAt 15).2.1, .string (opAt 15).2.2.1, .int .u64 (opAt 15).2.2.2.1, .bool (opAt 15).2.2.2.2]) w := by kernel_rfl
theorem ix16 (w : World) : (Instr.index 104 (.agg opsV) (.int .i64 16)).run Tryz.prog w = .ok (.agg #[.string (opAt 16).1, .string (opAt 16).2.1, .string (opAt 16).2.2.1, .int .u64 (opAt 16).2.2.2.1, .bool (opAt 16).2.2.2.2]) w := by kernel_rfl
theorem ix17 (w : World) : (Instr.index 104 (.agg opsV) (.int .i64 17)).run Tryz.prog w = .ok (.agg #[.string (opAt 17).1, .string (opAt 17).2.1, .string (opAt 17).2.2.1, .int .u64 (opAt 17).2.2.2.1, .bool (opAt 17).2.2.2.2]) w := by kernel_rfl
theorem ix18 (w : World) : (Instr.index 104 (.agg opsV) (.int .i64 18)).run Tryz.prog w = .ok (.agg #[.string (opAt 18).1, .string (opAt 18).2.1, .string (opAt 18).2.2.1, .int .u64 (opAt 18).2.2.2.1, .bool (opAt 18).2.2.2.2]) w := by kernel_rfl
theorem ix19 (w : World) : (Instr.index 104 (.agg opsV) (.int .i64 19)).run Tryz.prog w = .ok (.agg #[.string (opAt 19).1, .string (opAt 19).2.1, .string (opAt 19).2.2.1, .int .u64 (opAt 19).2.2.2.1, .bool (opAt 19).2.2.2.2]) w := by kernel_rfl
theorem ix20 (w : World) : (Instr.index 104 (.agg opsV) (.int .i64 20)).run Tryz.prog w = .ok (.agg #[.string (opAt 20).1, .string (opAt 20).2.1, .string (opAt 20).2.2.1, .int .u64 (opAt 20).2.2.2.1, .bool (opAt 20).2.2.2.2]) w := by kernel_rfl
theorem ix21 (w : World) : (Instr.index 104 (.agg opsV) (.int .i64 21)).run Tryz.prog w = .ok (.agg #[.string (opAt 21).1, .string (opAt 21).2.1, .string (opAt 21).2.2.1, .int .u64 (opAt 21).2.2.2.1, .bool (opAt 21).2.2.2.2]) w := by kernel_rfl
theorem ix22 (w : World) : (Instr.index 104 (.agg opsV) (.int .i64 22)).run Tryz.prog w = .ok (.agg #[.string (opAt 22).1, .string (opAt 22).2.1, .string (opAt 22).2.2.1, .int .u64 (opAt 22).2.2.2.1, .bool (opAt 22).2.2.2.2]) w := by kernel_rfl
theorem ix23 (w : World) : (Instr.index 104 (.agg opsV) (.int .i64 23)).run Tryz.prog w = .ok (.agg #[.string (opAt 23).1, .string (opAt 23).2.1, .string (opAt 23).2.2.1, .int .u64 (opAt 23).2.2.2.1, .bool (opAt 23).2.2.2.2]) w := by kernel_rfl
theorem ix24 (w : World) : (Instr.index 104 (.agg opsV) (.int .i64 24)).run Tryz.prog w = .ok (.agg #[.string (opAt 24).1, .string (opAt 24).2.1, .string (opAt 24).2.2.1, .int .u64 (opAt 24).2.2.2.1, .bool (opAt 24).2.2.2.2]) w := by kernel_rfl
theorem ix25 (w : World) : (Instr.index 104 (.agg opsV) (.int .i64 25)).run Tryz.prog w = .ok (.agg #[.string (opAt 25).1, .string (opAt 25).2.1, .string (opAt 25).2.2.1, .int .u64 (opAt 25).2.2.2.1, .bool (opAt 25).2.2.2.2]) w := by kernel_rfl
theorem ix26 (w : World) : (Instr.index 104 (.agg opsV) (.int .i64 26)).run Tryz.prog w = .ok (.agg #[.string (opAt 26).1, .string (opAt 26).2.1, .string (opAt 26).2.2.1, .int .u64 (opAt 26).2.2.2.1, .bool (opAt 26).2.2.2.2]) w := by kernel_rfl
theorem ix27 (w : World) : (Instr.index 104 (.agg opsV) (.int .i64 27)).run Tryz.prog w = .ok (.agg #[.string (opAt 27).1, .string (opAt 27).2.1, .string (opAt 27).2.2.1, .int .u64 (opAt 27).2.2.2.1, .bool (opAt 27).2.2.2.2]) w := by kernel_rfl
theorem ix28 (w : World) : (Instr.index 104 (.agg opsV) (.int .i64 28)).run Tryz.prog w = .ok (.agg #[.string (opAt 28).1, .string (opAt 28).2.1, .string (opAt 28).2.2.1, .int .u64 (opAt 28).2.2.2.1, .bool (opAt 28).2.2.2.2]) w := by kernel_rfl
theorem ix29 (w : World) : (Instr.index 104 (.agg opsV) (.int .i64 29)).run Tryz.prog w = .ok (.agg #[.string (opAt 29).1, .string (opAt 29).2.1, .string (opAt 29).2.2.1, .int .u64 (opAt 29).2.2.2.1, .bool (opAt 29).2.2.2.2]) w := by kernel_rfl
theorem ix30 (w : World) : (Instr.index 104 (.agg opsV) (.int .i64 30)).run Tryz.prog w = .ok (.agg #[.string (opAt 30).1, .string (opAt 30).2.1, .string (opAt 30).2.2.1, .int .u64 (opAt 30).2.2.2.1, .bool (opAt 30).2.2.2.2]) w := by kernel_rfl
theorem ix31 (w : World) : (Instr.index 104 (.agg opsV) (.int .i64 31)).run Tryz.prog w = .ok (.agg #[.string (opAt 31).1, .string (opAt 31).2.1, .string (opAt 31).2.2.1, .int .u64 (opAt 31).2.2.2.1, .bool (opAt 31).2.2.2.2]) w := by kernel_rfl
theorem ix32 (w : World) : (Instr.index 104 (.agg opsV) (.int .i64 32)).run Tryz.prog w = .ok (.agg #[.string (opAt 32).1, .string (opAt 32).2.1, .string (opAt 32).2.2.1, .int .u64 (opAt 32).2.2.2.1, .bool (opAt 32).2.2.2.2]) w := by kernel_rfl
theorem ix33 (w : World) : (Instr.index 104 (.agg opsV) (.int .i64 33)).run Tryz.prog w = .ok (.agg #[.string (opAt 33).1, .string (opAt 33).2.1, .string (opAt 33).2.2.1, .int .u64 (opAt 33).2.2.2.1, .bool (opAt 33).2.2.2.2]) w := by kernel_rfl
theorem ix34 (w : World) : (Instr.index 104 (.agg opsV) (.int .i64 34)).run Tryz.prog w = .ok (.agg #[.string (opAt 34).1, .string (opAt 34).2.1, .string (opAt 34).2.2.1, .int .u64 (opAt 34).2.2.2.1, .bool (opAt 34).2.2.2.2]) w := by kernel_rfl
theorem ix35 (w : World) : (Instr.index 104 (.agg opsV) (.int .i64 35)).run Tryz.prog w = .ok (.agg #[.string (opAt 35).1, .string (opAt 35).2.1, .string (opAt 35).2.2.1, .int .u64 (opAt 35).2.2.2.1, .bool (opAt 35).2.2.2.2]) w := by kernel_rfl
theorem index_ops (op : Int) (h0 : 0 ≤ op) (h1 : op < 36) (w : World) : (Instr.index 104 (.agg opsV) (.int .i64 op)).run Tryz.prog w = .ok (.agg #[.string (opAt op).1, .string (opAt op).2.1, .string (opAt op).2.2.1, .int .u64 (opAt op).2.2.2.1, .bool (opAt op).2.2.2.2]) w := by
  have hc : op = 0 ∨ op = 1 ∨ op = 2 ∨ op = 3 ∨ op = 4 ∨ op = 5 ∨ op = 6 ∨ op = 7 ∨ op = 8 ∨ op = 9 ∨ op = 10 ∨ op = 11 ∨ op = 12 ∨ op = 13 ∨ op = 14 ∨ op = 15 ∨ op = 16 ∨ op = 17 ∨ op = 18 ∨ op = 19 ∨ op = 20 ∨ op = 21 ∨ op = 22 ∨ op = 23 ∨ op = 24 ∨ op = 25 ∨ op = 26 ∨ op = 27 ∨ op = 28 ∨ op = 29 ∨ op = 30 ∨ op = 31 ∨ op = 32 ∨ op = 33 ∨ op = 34 ∨ op = 35 := by omega
  rcases hc with rfl | rfl | rfl | rfl | rfl | rfl | rfl | rfl | rfl | rfl | rfl | rfl | rfl | rfl | rfl | rfl | rfl | rfl | rfl | rfl | rfl | rfl | rfl | rfl | rfl | rfl | rfl | rfl | rfl | rfl | rfl | rfl | rfl | rfl | rfl | rfl
  · exact ix0 w
  · exact ix1 w
  · exact ix2 w
  · exact ix3 w
  · exact ix4 w
  · exact ix5 w
  · exact ix6 w
  · exact ix7 w
  · exact ix8 w
  · exact ix9 w
  · exact ix10 w
  · exact ix11 w
  · exact ix12 w
  · exact ix13 w
  · exact ix14 w
  · exact ix15 w
  · exact ix16 w
  · exact ix17 w
  · exact ix18 w
  · exact ix19 w
  · exact ix20 w
  · exact ix21 w
  · exact ix22 w
  · exact ix23 w
  · exact ix24 w
  · exact ix25 w
  · exact ix26 w
  · exact ix27 w
  · exact ix28 w
  · exact ix29 w
  · exact ix30 w
  · exact ix31 w
  · exact ix32 w
  · exact ix33 w
  · exact ix34 w
  · exact ix35 w
set_option maxHeartbeats 1000000 in
theorem known_any (op : Int) (w : World) : Calls Tryz.prog 23 #[.int .i64 op] w fun x w' => x = .returned (.tuple #[.agg #[.string (opAt op).1, .string (opAt op).2.1, .string (opAt op).2.2.1, .int .u64 (opAt op).2.2.2.1, .bool (opAt op).2.2.2.2], .bool (isOp op)]) ∧ Ext w w' := by
  by_cases h0 : op < 0
  · rw [show opAt op = noOp by unfold opAt; exact if_neg (by omega), show isOp op = false by unfold isOp; exact decide_eq_false (by omega)]
    show Calls _ _ _ _ fun x w' => x = .returned (.tuple #[.agg #[.string ⟨#[]⟩, .string ⟨#[]⟩, .string ⟨#[]⟩, .int .u64 0, .bool false], .bool false]) ∧ Ext w w'
    go_enter Tryz.func23, Tryz.ntmps23
    go_wp2_with fail
    refine bodyPost_ret (v := .tuple #[.agg #[.string ⟨#[]⟩, .string ⟨#[]⟩, .string ⟨#[]⟩, .int .u64 0, .bool false], .bool false]) (by simp [results, Tryz.results23, go_sem, *]) rfl ⟨rfl, ?_⟩
    repeat' (first | exact Ext.refl _ | assumption | (with_reducible refine Ext.alloc ?_ _) | (with_reducible refine Ext.drew ?_) | (with_reducible refine Ext.drewN _ ?_) | (refine Ext.setCell ?_ (by first | exact Nat.le_refl _ | (simp; done) | (simp; omega) | omega) _) | (refine Ext.trans ?_ (by assumption)))
  by_cases h1 : 36 ≤ op
  · rw [show opAt op = noOp by unfold opAt; exact if_neg (by omega), show isOp op = false by unfold isOp; exact decide_eq_false (by omega)]
    show Calls _ _ _ _ fun x w' => x = .returned (.tuple #[.agg #[.string ⟨#[]⟩, .string ⟨#[]⟩, .string ⟨#[]⟩, .int .u64 0, .bool false], .bool false]) ∧ Ext w w'
    go_enter Tryz.func23, Tryz.ntmps23
    go_wp2_with fail
    refine bodyPost_ret (v := .tuple #[.agg #[.string ⟨#[]⟩, .string ⟨#[]⟩, .string ⟨#[]⟩, .int .u64 0, .bool false], .bool false]) (by simp [results, Tryz.results23, go_sem, *]) rfl ⟨rfl, ?_⟩
    repeat' (first | exact Ext.refl _ | assumption | (with_reducible refine Ext.alloc ?_ _) | (with_reducible refine Ext.drew ?_) | (with_reducible refine Ext.drewN _ ?_) | (refine Ext.setCell ?_ (by first | exact Nat.le_refl _ | (simp; done) | (simp; omega) | omega) _) | (refine Ext.trans ?_ (by assumption)))
  · rw [show isOp op = true by unfold isOp; exact decide_eq_true (by omega)]
    have hix := index_ops op (by omega) (by omega)
    obtain ⟨n, hn⟩ : ∃ n, (opAt op).1 = n := ⟨_, rfl⟩
    obtain ⟨p, hp⟩ : ∃ n, (opAt op).2.1 = n := ⟨_, rfl⟩
    obtain ⟨q, hq⟩ : ∃ n, (opAt op).2.2.1 = n := ⟨_, rfl⟩
    obtain ⟨l, hl⟩ : ∃ n, (opAt op).2.2.2.1 = n := ⟨_, rfl⟩
    obtain ⟨g, hg⟩ : ∃ n, (opAt op).2.2.2.2 = n := ⟨_, rfl⟩
    rw [hn, hp, hq, hl, hg] at hix ⊢
    clear hn hp hq hl hg
    have B0 := Blk.new w [.string ⟨#[]⟩, .string ⟨#[]⟩, .string ⟨#[]⟩, .int .u64 0, .bool false] 72
    have E0 : Ext w (w.alloc (.cells #[.string ⟨#[]⟩, .string ⟨#[]⟩, .string ⟨#[]⟩, .int .u64 0, .bool false] 72)) := (Ext.refl w).alloc _
    go_enter Tryz.func23, Tryz.ntmps23
    go_wp2_with fail
    refine (operations_any _).mono ?_
    rintro e1 w1 ⟨rfl, g1⟩
    replace B0 := B0.ext g1
    replace E0 := E0.trans g1
    have q0 := B0.cell 0 _ rfl
    have f0 := B0.frozen 0
    have q1 := B0.cell 1 _ rfl
    have f1 := B0.frozen 1
    have q2 := B0.cell 2 _ rfl
    have f2 := B0.frozen 2
    have q3 := B0.cell 3 _ rfl
    have f3 := B0.frozen 3
    have q4 := B0.cell 4 _ rfl
    have f4 := B0.frozen 4
    go_wp2_with fail
    refine bodyPost_ret (v := .tuple #[.agg #[.string n, .string p, .string q, .int .u64 l, .bool g], .bool true]) (by simp [results, Tryz.results23, go_sem, *]) rfl ⟨rfl, ?_⟩
    repeat' (first | exact Ext.refl _ | assumption | (with_reducible refine Ext.alloc ?_ _) | (with_reducible refine Ext.drew ?_) | (with_reducible refine Ext.drewN _ ?_) | (refine Ext.setCell ?_ (by first | exact Nat.le_refl _ | (simp; done) | (simp; omega) | omega) _) | (refine Ext.trans ?_ (by assumption)))
end Go.Proofs.YthjnchjfmbblfaaGreatDoor

/- Check, Name, Effect. -/
namespace Go.Proofs.YthjnchjfmbblfaaGreatDoor
open Go.RowKit
set_option linter.unusedVariables false


def chkI (op arg : Int) : Int := if isOp op = false then 1 else if (opAt op).2.2.2.1 ≤ arg then 2 else 0
set_option maxHeartbeats 1000000 in
theorem icheck_any (op arg : Int) (h0 : 0 ≤ arg) (h1 : arg ≤ 4294967295) (w : World) : Calls Tryz.prog 45 #[.agg #[.int .i64 op, .int .u32 arg]] w fun x w' => x = .returned (.int .i64 (chkI op arg)) ∧ Ext w w' := by
  by_cases k1 : isOp op = true
  · by_cases k2 : (opAt op).2.2.2.1 ≤ arg
    · rw [show chkI op arg = 2 by unfold chkI; rw [if_neg (by simp [k1]), if_pos k2]]
      obtain ⟨n, hn⟩ : ∃ n, (opAt op).1 = n := ⟨_, rfl⟩
      obtain ⟨p, hp⟩ : ∃ n, (opAt op).2.1 = n := ⟨_, rfl⟩
      obtain ⟨q, hq⟩ : ∃ n, (opAt op).2.2.1 = n := ⟨_, rfl⟩
      obtain ⟨l, hl⟩ : ∃ n, (opAt op).2.2.2.1 = n := ⟨_, rfl⟩
      obtain ⟨g, hg⟩ : ∃ n, (opAt op).2.2.2.2 = n := ⟨_, rfl⟩
      have hk := known_any op
      rw [hn, hp, hq, hl, hg] at hk
      rw [k1] at hk
      rw [hl] at k2
      clear k1 hn hp hq hl hg
      have hk := hidden hk
      have B0 := Blk.new w [.int .i64 op, .int .u32 arg] 56
      have E0 : Ext w (w.alloc (.cells #[.int .i64 op, .int .u32 arg] 56)) := (Ext.refl w).alloc _
      go_enter Tryz.func45, Tryz.ntmps45
      go_wp2_with fail
      refine (hk.out _).mono ?_
      rintro e1 w1 ⟨rfl, g1⟩
      have Bx := Blk.new w1 [.string n, .string p, .string q, .int .u64 l, .bool g] 72
      replace B0 := (B0.ext g1).alloc (.cells #[.string n, .string p, .string q, .int .u64 l, .bool g] 72)
      replace E0 := (E0.trans g1).alloc (.cells #[.string n, .string p, .string q, .int .u64 l, .bool g] 72)
      have q0 := B0.cell 0 _ rfl
      have q1 := B0.cell 1 _ rfl
      have lb := (Blk.ext (Blk.new w [.int .i64 op, .int .u32 arg] 56) g1).cell 1 _ rfl
      go_wp2_with fail
      go_ret
      exact ⟨rfl, E0⟩
    · rw [show chkI op arg = 0 by unfold chkI; rw [if_neg (by simp [k1]), if_neg k2]]
      obtain ⟨n, hn⟩ : ∃ n, (opAt op).1 = n := ⟨_, rfl⟩
      obtain ⟨p, hp⟩ : ∃ n, (opAt op).2.1 = n := ⟨_, rfl⟩
      obtain ⟨q, hq⟩ : ∃ n, (opAt op).2.2.1 = n := ⟨_, rfl⟩
      obtain ⟨l, hl⟩ : ∃ n, (opAt op).2.2.2.1 = n := ⟨_, rfl⟩
      obtain ⟨g, hg⟩ : ∃ n, (opAt op).2.2.2.2 = n := ⟨_, rfl⟩
      have hk := known_any op
      rw [hn, hp, hq, hl, hg] at hk
      rw [k1] at hk
      rw [hl] at k2
      clear k1 hn hp hq hl hg
      have hk := hidden hk
      have B0 := Blk.new w [.int .i64 op, .int .u32 arg] 56
      have E0 : Ext w (w.alloc (.cells #[.int .i64 op, .int .u32 arg] 56)) := (Ext.refl w).alloc _
      go_enter Tryz.func45, Tryz.ntmps45
      go_wp2_with fail
      refine (hk.out _).mono ?_
      rintro e1 w1 ⟨rfl, g1⟩
      have Bx := Blk.new w1 [.string n, .string p, .string q, .int .u64 l, .bool g] 72
      replace B0 := (B0.ext g1).alloc (.cells #[.string n, .string p, .string q, .int .u64 l, .bool g] 72)
      replace E0 := (E0.trans g1).alloc (.cells #[.string n, .string p, .string q, .int .u64 l, .bool g] 72)
      have q0 := B0.cell 0 _ rfl
      have q1 := B0.cell 1 _ rfl
      have lb := (Blk.ext (Blk.new w [.int .i64 op, .int .u32 arg] 56) g1).cell 1 _ rfl
      go_wp2_with fail
      go_ret
      exact ⟨rfl, E0⟩
  · have k3 : isOp op = false := by simpa using k1
    rw [show chkI op arg = 1 by unfold chkI; rw [if_pos k3]]
    obtain ⟨n, hn⟩ : ∃ n, (opAt op).1 = n := ⟨_, rfl⟩
    obtain ⟨p, hp⟩ : ∃ n, (opAt op).2.1 = n := ⟨_, rfl⟩
    obtain ⟨q, hq⟩ : ∃ n, (opAt op).2.2.1 = n := ⟨_, rfl⟩
    obtain ⟨l, hl⟩ : ∃ n, (opAt op).2.2.2.1 = n := ⟨_, rfl⟩
    obtain ⟨g, hg⟩ : ∃ n, (opAt op).2.2.2.2 = n := ⟨_, rfl⟩
    have hk := known_any op
    rw [hn, hp, hq, hl, hg] at hk
    rw [k3] at hk
    clear k1 k3 hn hp hq hl hg
    have hk := hidden hk
    have B0 := Blk.new w [.int .i64 op, .int .u32 arg] 56
    have E0 : Ext w (w.alloc (.cells #[.int .i64 op, .int .u32 arg] 56)) := (Ext.refl w).alloc _
    go_enter Tryz.func45, Tryz.ntmps45
    go_wp2_with fail
    refine (hk.out _).mono ?_
    rintro e1 w1 ⟨rfl, g1⟩
    have Bx := Blk.new w1 [.string n, .string p, .string q, .int .u64 l, .bool g] 72
    replace B0 := (B0.ext g1).alloc (.cells #[.string n, .string p, .string q, .int .u64 l, .bool g] 72)
    replace E0 := (E0.trans g1).alloc (.cells #[.string n, .string p, .string q, .int .u64 l, .bool g] 72)
    have q0 := B0.cell 0 _ rfl
    have q1 := B0.cell 1 _ rfl
    have lb := (Blk.ext (Blk.new w [.int .i64 op, .int .u32 arg] 56) g1).cell 1 _ rfl
    go_wp2_with fail
    go_ret
    exact ⟨rfl, E0⟩
theorem iname_any (op : Int) (w : World) : Calls Tryz.prog 37 #[.int .i64 op] w fun x w' => x = .returned (.string (opAt op).1) ∧ Ext w w' := by
  obtain ⟨b, hb⟩ : ∃ b, isOp op = b := ⟨_, rfl⟩
  obtain ⟨n, hn⟩ : ∃ n, (opAt op).1 = n := ⟨_, rfl⟩
  obtain ⟨p, hp⟩ : ∃ n, (opAt op).2.1 = n := ⟨_, rfl⟩
  obtain ⟨q, hq⟩ : ∃ n, (opAt op).2.2.1 = n := ⟨_, rfl⟩
  obtain ⟨l, hl⟩ : ∃ n, (opAt op).2.2.2.1 = n := ⟨_, rfl⟩
  obtain ⟨g, hg⟩ : ∃ n, (opAt op).2.2.2.2 = n := ⟨_, rfl⟩
  have hk := known_any op
  rw [hn, hp, hq, hl, hg] at hk
  rw [hb] at hk
  rw [hn]
  clear hn hp hq hl hg hb
  have hk := hidden hk
  go_enter Tryz.func37, Tryz.ntmps37
  go_wp2_with fail
  refine (hk.out _).mono ?_
  rintro e1 w1 ⟨rfl, g1⟩
  go_wp2_with fail
  go_ret
  exact ⟨rfl, g1.alloc _⟩
end Go.Proofs.YthjnchjfmbblfaaGreatDoor
