
import Derived.Test.YtgjjklajipekdaaGreatRows
import Derived.Test.YtgjjklajipekdaaGreatR
import Derived.Deep.WholeRow
import Derived.Laws.Rows
import Derived.Deep.MidRow
import Derived.Deep.CutRange
import Derived.Outline
import Derived.BigQuiet
import Derived.Deep.QuietTactic
import Derived.Test.YtgjjklajipekdaaGreatT
namespace Go.Proofs.YtgjjklajipekdaaGreat
set_option maxHeartbeats 16000000
set_option maxRecDepth 100000
open Go.RowKit
set_option linter.unusedVariables false
def opsTab : List (ByteArray × ByteArray × ByteArray × Int × Bool) := [(⟨#[112, 117, 115, 104]⟩, ⟨#[]⟩, ⟨#[110]⟩, 4294967296, true),
 (⟨#[108, 111, 97, 100]⟩, ⟨#[]⟩, ⟨#[110]⟩, 16, true),
 (⟨#[115, 116, 111, 114, 101]⟩, ⟨#[110]⟩, ⟨#[]⟩, 16, true),
 (⟨#[103, 101, 116]⟩, ⟨#[110]⟩, ⟨#[110]⟩, 8, true),
 (⟨#[112, 117, 116]⟩, ⟨#[110, 110]⟩, ⟨#[]⟩, 8, true),
 (⟨#[100, 117, 112]⟩, ⟨#[97]⟩, ⟨#[97, 97]⟩, 1, false),
 (⟨#[100, 114, 111, 112]⟩, ⟨#[97]⟩, ⟨#[]⟩, 1, false),
 (⟨#[115, 119, 97, 112]⟩, ⟨#[97, 98]⟩, ⟨#[98, 97]⟩, 1, false),
 (⟨#[97, 100, 100]⟩, ⟨#[110, 110]⟩, ⟨#[110]⟩, 1, false),
 (⟨#[115, 117, 98]⟩, ⟨#[110, 110]⟩, ⟨#[110]⟩, 1, false),
 (⟨#[109, 117, 108]⟩, ⟨#[110, 110]⟩, ⟨#[110]⟩, 1, false),
 (⟨#[100, 105, 118]⟩, ⟨#[110, 110]⟩, ⟨#[110]⟩, 1, false),
 (⟨#[109, 111, 100]⟩, ⟨#[110, 110]⟩, ⟨#[110]⟩, 1, false),
 (⟨#[97, 110, 100]⟩, ⟨#[110, 110]⟩, ⟨#[110]⟩, 1, false),
 (⟨#[111, 114]⟩, ⟨#[110, 110]⟩, ⟨#[110]⟩, 1, false),
 (⟨#[120, 111, 114]⟩, ⟨#[110, 110]⟩, ⟨#[110]⟩, 1, false),
 (⟨#[115, 104, 108]⟩, ⟨#[110, 110]⟩, ⟨#[110]⟩, 1, false),
 (⟨#[115, 104, 114]⟩, ⟨#[110, 110]⟩, ⟨#[110]⟩, 1, false),
 (⟨#[109, 105, 110]⟩, ⟨#[110, 110]⟩, ⟨#[110]⟩, 1, false),
 (⟨#[109, 97, 120]⟩, ⟨#[110, 110]⟩, ⟨#[110]⟩, 1, false),
 (⟨#[104, 97, 115, 104]⟩, ⟨#[110, 110]⟩, ⟨#[110]⟩, 1, false),
 (⟨#[101, 113]⟩, ⟨#[110, 110]⟩, ⟨#[116]⟩, 1, false),
 (⟨#[108, 101, 115, 115]⟩, ⟨#[110, 110]⟩, ⟨#[116]⟩, 1, false),
 (⟨#[110, 111, 116]⟩, ⟨#[116]⟩, ⟨#[116]⟩, 1, false),
 (⟨#[98, 111, 116, 104]⟩, ⟨#[116, 116]⟩, ⟨#[116]⟩, 1, false),
 (⟨#[101, 105, 116, 104, 101, 114]⟩, ⟨#[116, 116]⟩, ⟨#[116]⟩, 1, false),
 (⟨#[105, 110, 116]⟩, ⟨#[116]⟩, ⟨#[110]⟩, 1, false),
 (⟨#[105, 102]⟩, ⟨#[116]⟩, ⟨#[]⟩, 1, false),
 (⟨#[101, 108, 115, 101]⟩, ⟨#[]⟩, ⟨#[]⟩, 1, false),
 (⟨#[108, 111, 111, 112]⟩, ⟨#[110]⟩, ⟨#[]⟩, 1, false),
 (⟨#[108, 101, 97, 118, 101]⟩, ⟨#[116]⟩, ⟨#[]⟩, 1, false),
 (⟨#[101, 110, 100]⟩, ⟨#[]⟩, ⟨#[]⟩, 1, false),
 (⟨#[105, 110, 112, 117, 116]⟩, ⟨#[]⟩, ⟨#[110]⟩, 1, false),
 (⟨#[101, 110, 100, 101, 100]⟩, ⟨#[]⟩, ⟨#[116]⟩, 1, false),
 (⟨#[101, 109, 105, 116]⟩, ⟨#[110]⟩, ⟨#[]⟩, 1, false),
 (⟨#[99, 111, 110, 116, 101, 120, 116]⟩, ⟨#[110]⟩, ⟨#[]⟩, 16, true)]
def opCells (x : ByteArray × ByteArray × ByteArray × Int × Bool) : List Value := [.string x.1, .string x.2.1, .string x.2.2.1, .int .u64 x.2.2.2.1, .bool x.2.2.2.2]
def opsCells : List Value := opsTab.flatMap opCells
def opsV : Array Value := opsCells.toArray
theorem opsV_size : opsV.size = 180 := by decide +kernel
theorem calc_any (s : ByteArray) (w : World) : Calls Tryz.prog 117 #[.string s] w fun x w' => x = .returned (.agg #[.string s, .string ⟨#[110, 110]⟩, .string ⟨#[110]⟩, .int .u64 1, .bool false]) ∧ Ext w w' := by
 go_enter Tryz.func117, Tryz.ntmps117
 go_wp2_with fail
 refine bodyPost_ret (v := .agg #[.string s, .string ⟨#[110, 110]⟩, .string ⟨#[110]⟩, .int .u64 1, .bool false]) (by simp [results, Tryz.results117, go_sem]) rfl ⟨rfl, ?_⟩
 repeat' (first | exact Ext.refl _ | assumption | (with_reducible refine Ext.alloc ?_ _) | (with_reducible refine Ext.drew ?_) | (with_reducible refine Ext.drewN _ ?_) | (refine Ext.setCell ?_ (by first | exact Nat.le_refl _ | (simp; done) | (simp; omega) | omega) _) | (refine Ext.trans ?_ (by assumption)))
theorem plain_any (s p q : ByteArray) (w : World) : Calls Tryz.prog 118 #[.string s, .string p, .string q] w fun x w' => x = .returned (.agg #[.string s, .string p, .string q, .int .u64 1, .bool false]) ∧ Ext w w' := by
 go_enter Tryz.func118, Tryz.ntmps118
 go_wp2_with fail
 refine bodyPost_ret (v := .agg #[.string s, .string p, .string q, .int .u64 1, .bool false]) (by simp [results, Tryz.results118, go_sem]) rfl ⟨rfl, ?_⟩
 repeat' (first | exact Ext.refl _ | assumption | (with_reducible refine Ext.alloc ?_ _) | (with_reducible refine Ext.drew ?_) | (with_reducible refine Ext.drewN _ ?_) | (refine Ext.setCell ?_ (by first | exact Nat.le_refl _ | (simp; done) | (simp; omega) | omega) _) | (refine Ext.trans ?_ (by assumption)))
theorem wpList_run_eq {P : Program} {w : World} {ops : Array Oper} {rest : List Oper} {o : Oper} {a : Act} {Q : Exit → Act → World → Prop} {v : Value} (hg : o.guard = none) (hrun : (execOp a.eval o).run P w = .ok (.value v) w) (h : wpList P ops Q rest (a.put o.dst v) w) : wpList P ops Q (o :: rest) a w := by
 refine wpList_plain hg fun K hK => ?_
 unfold Oper.wp
 rw [hrun]
 exact hK _ _ h
theorem Ext.setCells {w : World} {b : Nat} : ∀ (vs : List Value) (o : Nat) {w1 : World}, Ext w w1 → w.heap.size ≤ b → Ext w (w1.setCells b o vs)
 | [], _, _, h, _ => h
 | v :: r, o, _, h, hb => Ext.setCells r (o + 1) (h.setCell hb v) hb
theorem Blk.there {w : World} {b : Nat} {t : TypeId} {cs : List Value} (h : Blk w b t cs) : w.there b 0 cs.length := fun j hj => by
 refine ⟨?_, ?_⟩
 ·rw [Nat.zero_add, h.cell j (cs[j]'hj) (List.getElem?_eq_getElem hj)]; rfl
 ·rw [Nat.zero_add]; exact h.frozen j
theorem results_cell_mid {P : Program} {fn : Func} {p : Tmp} {ty : TypeId} (h : fn.results = #[.cell p ty]) (tmps : Array Value) (w : World) (g : Nat) (cs : List Value) (d : TypeDesc)
  (hp : tmps.getD p undef = .pointer (some ⟨g, 0, none⟩)) (hg : w.rangeAt g 0 cs) (hu : P.underlying ty = some d) (hd : d.isRow = true) (hi : (P.info? ty).map (·.size) = some cs.length) :
  (results fn tmps).run P w = .ok (.agg cs.toArray) w := by
 have hp' : tmps[p]?.getD undef = .pointer (some ⟨g, 0, none⟩) := by simpa using hp
 simp [results, h, hp', asAddr, run_loadVar_mid w g 0 ty cs d hg hu hd hi]
theorem there_arr {w : World} {b : Nat} {C : Array Value} {t : TypeId} (hb : w.heap[b]? = some (.cells C t (0, 0))) : w.there b 0 C.size := fun j hj => by
 refine ⟨?_, ?_⟩
 ·rw [Nat.zero_add, cell_of_row w b j C t _ hb]; simp [hj]
 ·rw [Nat.zero_add]; exact frozen_of_row w b j C t hb
theorem blk_ext {w w' : World} {b : Nat} {o : Obj} (hb : w.heap[b]? = some o) (h : Ext w w') : w'.heap[b]? = some o := by
 have h' : Below w.heap.size w w' := h
 rw [h'.block b (Array.getElem?_eq_some_iff.1 hb).1]; exact hb
theorem operations_any (w : World) : Calls Tryz.prog 88 #[] w fun x w' => x = .returned (.agg opsV) ∧ Ext w w' := by
 go_enter Tryz.func88, Tryz.ntmps88
 go_upto_region 1 with fail
 have hz : Tryz.zeroCells156.size = 180 := by kernel_rfl
 have hB : (w.alloc (.cells Tryz.zeroCells156 156)).heap[w.heap.size]? = some (.cells Tryz.zeroCells156 156 (0, 0)) := heap_alloc_new w _
 have E0 : Ext w (w.alloc (.cells Tryz.zeroCells156 156)) := (Ext.refl w).alloc _
 have hp0 : w.heap.size < (w.alloc (.cells Tryz.zeroCells156 156)).heap.size := by simp
 obtain ⟨V, hV⟩ := ex (w.alloc (.cells Tryz.zeroCells156 156))
 rw [hV] at hB E0 hp0 ⊢
 clear hV
 go_wp2_with (first | (go_at_call 117; refine (calc_any _ _).mono ?_; rintro e w1 ⟨rfl, hE⟩; replace E0 := E0.trans hE; replace hB := blk_ext hB hE; clear hE) | (go_at_call 118; refine (plain_any _ _ _ _).mono ?_; rintro e w1 ⟨rfl, hE⟩; replace E0 := E0.trans hE; replace hB := blk_ext hB hE; clear hE) | (refine wpList_run_eq (o := ⟨some 69, _, _, _, _, _⟩) (by rfl) (v := .agg opsV) (by kernel_rfl) ?_) | (refine wpList_store_mid (op := ⟨none, .store 156 _ _, _, _, _, _⟩) (by rfl) 156 _ _ (by rfl) w.heap.size 0 opsV (by rfl) (by rfl) (by rw [opsV_size, ← hz]; exact there_arr hB) (by rw [opsV_size]; kernel_rfl) (by decide +kernel) ?_))
 have hth : w1.there w.heap.size 0 opsV.toList.length := by
  rw [show opsV.toList.length = 180 by simpa using opsV_size, ← hz]; exact there_arr hB
 refine bodyPost_ret (v := .agg opsV) (results_cell_mid (by rfl) _ _ w.heap.size opsV.toList _ (by rfl) (World.rangeAt_setCells_same w1 w.heap.size 0 opsV.toList hth) Tryz.underlying156 (by rfl) (by rw [show opsV.toList.length = 180 by simpa using opsV_size]; kernel_rfl)) (by rfl) ⟨rfl, ?_⟩
 exact Ext.setCells _ 0 E0 (Nat.le_refl _)
set_option linter.unusedVariables false
def noOp : ByteArray × ByteArray × ByteArray × Int × Bool := (⟨#[]⟩, ⟨#[]⟩, ⟨#[]⟩, 0, false)
def opAt (op : Int) : ByteArray × ByteArray × ByteArray × Int × Bool := if 0 ≤ op ∧ op < 36 then opsTab.getD op.toNat noOp else noOp
def isOp (op : Int) : Bool := decide (0 ≤ op ∧ op < 36)
theorem ix0 (w : World) : (Instr.index 156 (.agg opsV) (.int .i64 0)).run Tryz.prog w = .ok (.agg #[.string (opAt 0).1, .string (opAt 0).2.1, .string (opAt 0).2.2.1, .int .u64 (opAt 0).2.2.2.1, .bool (opAt 0).2.2.2.2]) w := by kernel_rfl
theorem ix1 (w : World) : (Instr.index 156 (.agg opsV) (.int .i64 1)).run Tryz.prog w = .ok (.agg #[.string (opAt 1).1, .string (opAt 1).2.1, .string (opAt 1).2.2.1, .int .u64 (opAt 1).2.2.2.1, .bool (opAt 1).2.2.2.2]) w := by kernel_rfl
theorem ix2 (w : World) : (Instr.index 156 (.agg opsV) (.int .i64 2)).run Tryz.prog w = .ok (.agg #[.string (opAt 2).1, .string (opAt 2).2.1, .string (opAt 2).2.2.1, .int .u64 (opAt 2).2.2.2.1, .bool (opAt 2).2.2.2.2]) w := by kernel_rfl
theorem ix3 (w : World) : (Instr.index 156 (.agg opsV) (.int .i64 3)).run Tryz.prog w = .ok (.agg #[.string (opAt 3).1, .string (opAt 3).2.1, .string (opAt 3).2.2.1, .int .u64 (opAt 3).2.2.2.1, .bool (opAt 3).2.2.2.2]) w := by kernel_rfl
theorem ix4 (w : World) : (Instr.index 156 (.agg opsV) (.int .i64 4)).run Tryz.prog w = .ok (.agg #[.string (opAt 4).1, .string (opAt 4).2.1, .string (opAt 4).2.2.1, .int .u64 (opAt 4).2.2.2.1, .bool (opAt 4).2.2.2.2]) w := by kernel_rfl
theorem ix5 (w : World) : (Instr.index 156 (.agg opsV) (.int .i64 5)).run Tryz.prog w = .ok (.agg #[.string (opAt 5).1, .string (opAt 5).2.1, .string (opAt 5).2.2.1, .int .u64 (opAt 5).2.2.2.1, .bool (opAt 5).2.2.2.2]) w := by kernel_rfl
theorem ix6 (w : World) : (Instr.index 156 (.agg opsV) (.int .i64 6)).run Tryz.prog w = .ok (.agg #[.string (opAt 6).1, .string (opAt 6).2.1, .string (opAt 6).2.2.1, .int .u64 (opAt 6).2.2.2.1, .bool (opAt 6).2.2.2.2]) w := by kernel_rfl
theorem ix7 (w : World) : (Instr.index 156 (.agg opsV) (.int .i64 7)).run Tryz.prog w = .ok (.agg #[.string (opAt 7).1, .string (opAt 7).2.1, .string (opAt 7).2.2.1, .int .u64 (opAt 7).2.2.2.1, .bool (opAt 7).2.2.2.2]) w := by kernel_rfl
theorem ix8 (w : World) : (Instr.index 156 (.agg opsV) (.int .i64 8)).run Tryz.prog w = .ok (.agg #[.string (opAt 8).1, .string (opAt 8).2.1, .string (opAt 8).2.2.1, .int .u64 (opAt 8).2.2.2.1, .bool (opAt 8).2.2.2.2]) w := by kernel_rfl
theorem ix9 (w : World) : (Instr.index 156 (.agg opsV) (.int .i64 9)).run Tryz.prog w = .ok (.agg #[.string (opAt 9).1, .string (opAt 9).2.1, .string (opAt 9).2.2.1, .int .u64 (opAt 9).2.2.2.1, .bool (opAt 9).2.2.2.2]) w := by kernel_rfl
theorem ix10 (w : World) : (Instr.index 156 (.agg opsV) (.int .i64 10)).run Tryz.prog w = .ok (.agg #[.string (opAt 10).1, .string (opAt 10).2.1, .string (opAt 10).2.2.1, .int .u64 (opAt 10).2.2.2.1, .bool (opAt 10).2.2.2.2]) w := by kernel_rfl
theorem ix11 (w : World) : (Instr.index 156 (.agg opsV) (.int .i64 11)).run Tryz.prog w = .ok (.agg #[.string (opAt 11).1, .string (opAt 11).2.1, .string (opAt 11).2.2.1, .int .u64 (opAt 11).2.2.2.1, .bool (opAt 11).2.2.2.2]) w := by kernel_rfl
theorem ix12 (w : World) : (Instr.index 156 (.agg opsV) (.int .i64 12)).run Tryz.prog w = .ok (.agg #[.string (opAt 12).1, .string (opAt 12).2.1, .string (opAt 12).2.2.1, .int .u64 (opAt 12).2.2.2.1, .bool (opAt 12).2.2.2.2]) w := by kernel_rfl
theorem ix13 (w : World) : (Instr.index 156 (.agg opsV) (.int .i64 13)).run Tryz.prog w = .ok (.agg #[.string (opAt 13).1, .string (opAt 13).2.1, .string (opAt 13).2.2.1, .int .u64 (opAt 13).2.2.2.1, .bool (opAt 13).2.2.2.2]) w := by kernel_rfl
theorem ix14 (w : World) : (Instr.index 156 (.agg opsV) (.int .i64 14)).run Tryz.prog w = .ok (.agg #[.string (opAt 14).1, .string (opAt 14).2.1, .string (opAt 14).2.2.1, .int .u64 (opAt 14).2.2.2.1, .bool (opAt 14).2.2.2.2]) w := by kernel_rfl
theorem ix15 (w : World) : (Instr.index 156 (.agg opsV) (.int .i64 15)).run Tryz.prog w = .ok (.agg #[.string (opAt 15).1, .string (opAt 15).2.1, .string (opAt 15).2.2.1, .int .u64 (opAt 15).2.2.2.1, .bool (opAt 15).2.2.2.2]) w := by kernel_rfl
theorem ix16 (w : World) : (Instr.index 156 (.agg opsV) (.int .i64 16)).run Tryz.prog w = .ok (.agg #[.string (opAt 16).1, .string (opAt 16).2.1, .string (opAt 16).2.2.1, .int .u64 (opAt 16).2.2.2.1, .bool (opAt 16).2.2.2.2]) w := by kernel_rfl
theorem ix17 (w : World) : (Instr.index 156 (.agg opsV) (.int .i64 17)).run Tryz.prog w = .ok (.agg #[.string (opAt 17).1, .string (opAt 17).2.1, .string (opAt 17).2.2.1, .int .u64 (opAt 17).2.2.2.1, .bool (opAt 17).2.2.2.2]) w := by kernel_rfl
theorem ix18 (w : World) : (Instr.index 156 (.agg opsV) (.int .i64 18)).run Tryz.prog w = .ok (.agg #[.string (opAt 18).1, .string (opAt 18).2.1, .string (opAt 18).2.2.1, .int .u64 (opAt 18).2.2.2.1, .bool (opAt 18).2.2.2.2]) w := by kernel_rfl
theorem ix19 (w : World) : (Instr.index 156 (.agg opsV) (.int .i64 19)).run Tryz.prog w = .ok (.agg #[.string (opAt 19).1, .string (opAt 19).2.1, .string (opAt 19).2.2.1, .int .u64 (opAt 19).2.2.2.1, .bool (opAt 19).2.2.2.2]) w := by kernel_rfl
theorem ix20 (w : World) : (Instr.index 156 (.agg opsV) (.int .i64 20)).run Tryz.prog w = .ok (.agg #[.string (opAt 20).1, .string (opAt 20).2.1, .string (opAt 20).2.2.1, .int .u64 (opAt 20).2.2.2.1, .bool (opAt 20).2.2.2.2]) w := by kernel_rfl
theorem ix21 (w : World) : (Instr.index 156 (.agg opsV) (.int .i64 21)).run Tryz.prog w = .ok (.agg #[.string (opAt 21).1, .string (opAt 21).2.1, .string (opAt 21).2.2.1, .int .u64 (opAt 21).2.2.2.1, .bool (opAt 21).2.2.2.2]) w := by kernel_rfl
theorem ix22 (w : World) : (Instr.index 156 (.agg opsV) (.int .i64 22)).run Tryz.prog w = .ok (.agg #[.string (opAt 22).1, .string (opAt 22).2.1, .string (opAt 22).2.2.1, .int .u64 (opAt 22).2.2.2.1, .bool (opAt 22).2.2.2.2]) w := by kernel_rfl
theorem ix23 (w : World) : (Instr.index 156 (.agg opsV) (.int .i64 23)).run Tryz.prog w = .ok (.agg #[.string (opAt 23).1, .string (opAt 23).2.1, .string (opAt 23).2.2.1, .int .u64 (opAt 23).2.2.2.1, .bool (opAt 23).2.2.2.2]) w := by kernel_rfl
theorem ix24 (w : World) : (Instr.index 156 (.agg opsV) (.int .i64 24)).run Tryz.prog w = .ok (.agg #[.string (opAt 24).1, .string (opAt 24).2.1, .string (opAt 24).2.2.1, .int .u64 (opAt 24).2.2.2.1, .bool (opAt 24).2.2.2.2]) w := by kernel_rfl
theorem ix25 (w : World) : (Instr.index 156 (.agg opsV) (.int .i64 25)).run Tryz.prog w = .ok (.agg #[.string (opAt 25).1, .string (opAt 25).2.1, .string (opAt 25).2.2.1, .int .u64 (opAt 25).2.2.2.1, .bool (opAt 25).2.2.2.2]) w := by kernel_rfl
theorem ix26 (w : World) : (Instr.index 156 (.agg opsV) (.int .i64 26)).run Tryz.prog w = .ok (.agg #[.string (opAt 26).1, .string (opAt 26).2.1, .string (opAt 26).2.2.1, .int .u64 (opAt 26).2.2.2.1, .bool (opAt 26).2.2.2.2]) w := by kernel_rfl
theorem ix27 (w : World) : (Instr.index 156 (.agg opsV) (.int .i64 27)).run Tryz.prog w = .ok (.agg #[.string (opAt 27).1, .string (opAt 27).2.1, .string (opAt 27).2.2.1, .int .u64 (opAt 27).2.2.2.1, .bool (opAt 27).2.2.2.2]) w := by kernel_rfl
theorem ix28 (w : World) : (Instr.index 156 (.agg opsV) (.int .i64 28)).run Tryz.prog w = .ok (.agg #[.string (opAt 28).1, .string (opAt 28).2.1, .string (opAt 28).2.2.1, .int .u64 (opAt 28).2.2.2.1, .bool (opAt 28).2.2.2.2]) w := by kernel_rfl
theorem ix29 (w : World) : (Instr.index 156 (.agg opsV) (.int .i64 29)).run Tryz.prog w = .ok (.agg #[.string (opAt 29).1, .string (opAt 29).2.1, .string (opAt 29).2.2.1, .int .u64 (opAt 29).2.2.2.1, .bool (opAt 29).2.2.2.2]) w := by kernel_rfl
theorem ix30 (w : World) : (Instr.index 156 (.agg opsV) (.int .i64 30)).run Tryz.prog w = .ok (.agg #[.string (opAt 30).1, .string (opAt 30).2.1, .string (opAt 30).2.2.1, .int .u64 (opAt 30).2.2.2.1, .bool (opAt 30).2.2.2.2]) w := by kernel_rfl
theorem ix31 (w : World) : (Instr.index 156 (.agg opsV) (.int .i64 31)).run Tryz.prog w = .ok (.agg #[.string (opAt 31).1, .string (opAt 31).2.1, .string (opAt 31).2.2.1, .int .u64 (opAt 31).2.2.2.1, .bool (opAt 31).2.2.2.2]) w := by kernel_rfl
theorem ix32 (w : World) : (Instr.index 156 (.agg opsV) (.int .i64 32)).run Tryz.prog w = .ok (.agg #[.string (opAt 32).1, .string (opAt 32).2.1, .string (opAt 32).2.2.1, .int .u64 (opAt 32).2.2.2.1, .bool (opAt 32).2.2.2.2]) w := by kernel_rfl
theorem ix33 (w : World) : (Instr.index 156 (.agg opsV) (.int .i64 33)).run Tryz.prog w = .ok (.agg #[.string (opAt 33).1, .string (opAt 33).2.1, .string (opAt 33).2.2.1, .int .u64 (opAt 33).2.2.2.1, .bool (opAt 33).2.2.2.2]) w := by kernel_rfl
theorem ix34 (w : World) : (Instr.index 156 (.agg opsV) (.int .i64 34)).run Tryz.prog w = .ok (.agg #[.string (opAt 34).1, .string (opAt 34).2.1, .string (opAt 34).2.2.1, .int .u64 (opAt 34).2.2.2.1, .bool (opAt 34).2.2.2.2]) w := by kernel_rfl
theorem ix35 (w : World) : (Instr.index 156 (.agg opsV) (.int .i64 35)).run Tryz.prog w = .ok (.agg #[.string (opAt 35).1, .string (opAt 35).2.1, .string (opAt 35).2.2.1, .int .u64 (opAt 35).2.2.2.1, .bool (opAt 35).2.2.2.2]) w := by kernel_rfl
theorem index_ops (op : Int) (h0 : 0 ≤ op) (h1 : op < 36) (w : World) : (Instr.index 156 (.agg opsV) (.int .i64 op)).run Tryz.prog w = .ok (.agg #[.string (opAt op).1, .string (opAt op).2.1, .string (opAt op).2.2.1, .int .u64 (opAt op).2.2.2.1, .bool (opAt op).2.2.2.2]) w := by
 have hc : op = 0 ∨ op = 1 ∨ op = 2 ∨ op = 3 ∨ op = 4 ∨ op = 5 ∨ op = 6 ∨ op = 7 ∨ op = 8 ∨ op = 9 ∨ op = 10 ∨ op = 11 ∨ op = 12 ∨ op = 13 ∨ op = 14 ∨ op = 15 ∨ op = 16 ∨ op = 17 ∨ op = 18 ∨ op = 19 ∨ op = 20 ∨ op = 21 ∨ op = 22 ∨ op = 23 ∨ op = 24 ∨ op = 25 ∨ op = 26 ∨ op = 27 ∨ op = 28 ∨ op = 29 ∨ op = 30 ∨ op = 31 ∨ op = 32 ∨ op = 33 ∨ op = 34 ∨ op = 35 := by omega
 rcases hc with rfl | rfl | rfl | rfl | rfl | rfl | rfl | rfl | rfl | rfl | rfl | rfl | rfl | rfl | rfl | rfl | rfl | rfl | rfl | rfl | rfl | rfl | rfl | rfl | rfl | rfl | rfl | rfl | rfl | rfl | rfl | rfl | rfl | rfl | rfl | rfl
 ·exact ix0 w
 ·exact ix1 w
 ·exact ix2 w
 ·exact ix3 w
 ·exact ix4 w
 ·exact ix5 w
 ·exact ix6 w
 ·exact ix7 w
 ·exact ix8 w
 ·exact ix9 w
 ·exact ix10 w
 ·exact ix11 w
 ·exact ix12 w
 ·exact ix13 w
 ·exact ix14 w
 ·exact ix15 w
 ·exact ix16 w
 ·exact ix17 w
 ·exact ix18 w
 ·exact ix19 w
 ·exact ix20 w
 ·exact ix21 w
 ·exact ix22 w
 ·exact ix23 w
 ·exact ix24 w
 ·exact ix25 w
 ·exact ix26 w
 ·exact ix27 w
 ·exact ix28 w
 ·exact ix29 w
 ·exact ix30 w
 ·exact ix31 w
 ·exact ix32 w
 ·exact ix33 w
 ·exact ix34 w
 ·exact ix35 w
theorem known_any (op : Int) (w : World) : Calls Tryz.prog 63 #[.int .i64 op] w fun x w' => x = .returned (.tuple #[.agg #[.string (opAt op).1, .string (opAt op).2.1, .string (opAt op).2.2.1, .int .u64 (opAt op).2.2.2.1, .bool (opAt op).2.2.2.2], .bool (isOp op)]) ∧ Ext w w' := by
 by_cases h0 : op < 0
 ·rw [show opAt op = noOp by unfold opAt; exact if_neg (by omega), show isOp op = false by unfold isOp; exact decide_eq_false (by omega)]
  show Calls _ _ _ _ fun x w' => x = .returned (.tuple #[.agg #[.string ⟨#[]⟩, .string ⟨#[]⟩, .string ⟨#[]⟩, .int .u64 0, .bool false], .bool false]) ∧ Ext w w'
  go_enter Tryz.func63, Tryz.ntmps63
  go_wp2_with fail
  refine bodyPost_ret (v := .tuple #[.agg #[.string ⟨#[]⟩, .string ⟨#[]⟩, .string ⟨#[]⟩, .int .u64 0, .bool false], .bool false]) (by simp [results, Tryz.results63, go_sem, *]) rfl ⟨rfl, ?_⟩
  repeat' (first | exact Ext.refl _ | assumption | (with_reducible refine Ext.alloc ?_ _) | (with_reducible refine Ext.drew ?_) | (with_reducible refine Ext.drewN _ ?_) | (refine Ext.setCell ?_ (by first | exact Nat.le_refl _ | (simp; done) | (simp; omega) | omega) _) | (refine Ext.trans ?_ (by assumption)))
 by_cases h1 : 36 ≤ op
 ·rw [show opAt op = noOp by unfold opAt; exact if_neg (by omega), show isOp op = false by unfold isOp; exact decide_eq_false (by omega)]
  show Calls _ _ _ _ fun x w' => x = .returned (.tuple #[.agg #[.string ⟨#[]⟩, .string ⟨#[]⟩, .string ⟨#[]⟩, .int .u64 0, .bool false], .bool false]) ∧ Ext w w'
  go_enter Tryz.func63, Tryz.ntmps63
  go_wp2_with fail
  refine bodyPost_ret (v := .tuple #[.agg #[.string ⟨#[]⟩, .string ⟨#[]⟩, .string ⟨#[]⟩, .int .u64 0, .bool false], .bool false]) (by simp [results, Tryz.results63, go_sem, *]) rfl ⟨rfl, ?_⟩
  repeat' (first | exact Ext.refl _ | assumption | (with_reducible refine Ext.alloc ?_ _) | (with_reducible refine Ext.drew ?_) | (with_reducible refine Ext.drewN _ ?_) | (refine Ext.setCell ?_ (by first | exact Nat.le_refl _ | (simp; done) | (simp; omega) | omega) _) | (refine Ext.trans ?_ (by assumption)))
 ·rw [show isOp op = true by unfold isOp; exact decide_eq_true (by omega)]
  have hix := index_ops op (by omega) (by omega)
  obtain ⟨n, hn⟩ := ex ((opAt op).1)
  obtain ⟨p, hp⟩ := ex ((opAt op).2.1)
  obtain ⟨q, hq⟩ := ex ((opAt op).2.2.1)
  obtain ⟨l, hl⟩ := ex ((opAt op).2.2.2.1)
  obtain ⟨g, hg⟩ := ex ((opAt op).2.2.2.2)
  rw [hn, hp, hq, hl, hg] at hix ⊢
  clear hn hp hq hl hg
  have B0 := Blk.new w [.string ⟨#[]⟩, .string ⟨#[]⟩, .string ⟨#[]⟩, .int .u64 0, .bool false] 120
  have E0 : Ext w (w.alloc (.cells #[.string ⟨#[]⟩, .string ⟨#[]⟩, .string ⟨#[]⟩, .int .u64 0, .bool false] 120)) := (Ext.refl w).alloc _
  go_enter Tryz.func63, Tryz.ntmps63
  go_wp2_with fail
  refine (operations_any _).mono ?_
  rintro e1 w1 ⟨rfl, g1⟩
  replace B0 := B0.ext g1
  replace E0 := E0.trans g1
  have q0 := B0.cell 0 _ rfl
  have f0 := B0.frozen 0
  have q1 := B0.cell 1 _ rfl
  have f1 := B0.frozen 1
  have q2 := B0.cell 2 _ rfl
  have f2 := B0.frozen 2
  have q3 := B0.cell 3 _ rfl
  have f3 := B0.frozen 3
  have q4 := B0.cell 4 _ rfl
  have f4 := B0.frozen 4
  go_wp2_with fail
  refine bodyPost_ret (v := .tuple #[.agg #[.string n, .string p, .string q, .int .u64 l, .bool g], .bool true]) (by simp [results, Tryz.results63, go_sem, *]) rfl ⟨rfl, ?_⟩
  repeat' (first | exact Ext.refl _ | assumption | (with_reducible refine Ext.alloc ?_ _) | (with_reducible refine Ext.drew ?_) | (with_reducible refine Ext.drewN _ ?_) | (refine Ext.setCell ?_ (by first | exact Nat.le_refl _ | (simp; done) | (simp; omega) | omega) _) | (refine Ext.trans ?_ (by assumption)))
set_option linter.unusedVariables false
def chkI (op arg : Int) : Int := if isOp op = false then 1 else if (opAt op).2.2.2.1 ≤ arg then 2 else 0
theorem icheck_any (op arg : Int) (h0 : 0 ≤ arg) (h1 : arg ≤ 4294967295) (w : World) : Calls Tryz.prog 85 #[.agg #[.int .i64 op, .int .u32 arg]] w fun x w' => x = .returned (.int .i64 (chkI op arg)) ∧ Ext w w' := by
 by_cases k1 : isOp op = true
 ·by_cases k2 : (opAt op).2.2.2.1 ≤ arg
  ·rw [show chkI op arg = 2 by unfold chkI; rw [if_neg (by simp [k1]), if_pos k2]]
   obtain ⟨n, hn⟩ := ex ((opAt op).1)
   obtain ⟨p, hp⟩ := ex ((opAt op).2.1)
   obtain ⟨q, hq⟩ := ex ((opAt op).2.2.1)
   obtain ⟨l, hl⟩ := ex ((opAt op).2.2.2.1)
   obtain ⟨g, hg⟩ := ex ((opAt op).2.2.2.2)
   have hk := known_any op
   rw [hn, hp, hq, hl, hg] at hk
   rw [k1] at hk
   rw [hl] at k2
   clear k1 hn hp hq hl hg
   have hk := hidden hk
   have B0 := Blk.new w [.int .i64 op, .int .u32 arg] 63
   have E0 : Ext w (w.alloc (.cells #[.int .i64 op, .int .u32 arg] 63)) := (Ext.refl w).alloc _
   go_enter Tryz.func85, Tryz.ntmps85
   go_wp2_with fail
   refine (hk.out _).mono ?_
   rintro e1 w1 ⟨rfl, g1⟩
   have Bx := Blk.new w1 [.string n, .string p, .string q, .int .u64 l, .bool g] 120
   replace B0 := (B0.ext g1).alloc (.cells #[.string n, .string p, .string q, .int .u64 l, .bool g] 120)
   replace E0 := (E0.trans g1).alloc (.cells #[.string n, .string p, .string q, .int .u64 l, .bool g] 120)
   obtain ⟨q0, q1⟩ := B0.c2
   have lb := (Blk.ext (Blk.new w [.int .i64 op, .int .u32 arg] 63) g1).cell 1 _ rfl
   go_wp2_with fail
   go_ret
   exact ⟨rfl, E0⟩
  ·rw [show chkI op arg = 0 by unfold chkI; rw [if_neg (by simp [k1]), if_neg k2]]
   obtain ⟨n, hn⟩ := ex ((opAt op).1)
   obtain ⟨p, hp⟩ := ex ((opAt op).2.1)
   obtain ⟨q, hq⟩ := ex ((opAt op).2.2.1)
   obtain ⟨l, hl⟩ := ex ((opAt op).2.2.2.1)
   obtain ⟨g, hg⟩ := ex ((opAt op).2.2.2.2)
   have hk := known_any op
   rw [hn, hp, hq, hl, hg] at hk
   rw [k1] at hk
   rw [hl] at k2
   clear k1 hn hp hq hl hg
   have hk := hidden hk
   have B0 := Blk.new w [.int .i64 op, .int .u32 arg] 63
   have E0 : Ext w (w.alloc (.cells #[.int .i64 op, .int .u32 arg] 63)) := (Ext.refl w).alloc _
   go_enter Tryz.func85, Tryz.ntmps85
   go_wp2_with fail
   refine (hk.out _).mono ?_
   rintro e1 w1 ⟨rfl, g1⟩
   have Bx := Blk.new w1 [.string n, .string p, .string q, .int .u64 l, .bool g] 120
   replace B0 := (B0.ext g1).alloc (.cells #[.string n, .string p, .string q, .int .u64 l, .bool g] 120)
   replace E0 := (E0.trans g1).alloc (.cells #[.string n, .string p, .string q, .int .u64 l, .bool g] 120)
   obtain ⟨q0, q1⟩ := B0.c2
   have lb := (Blk.ext (Blk.new w [.int .i64 op, .int .u32 arg] 63) g1).cell 1 _ rfl
   go_wp2_with fail
   go_ret
   exact ⟨rfl, E0⟩
 ·have k3 : isOp op = false := by simpa using k1
  rw [show chkI op arg = 1 by unfold chkI; rw [if_pos k3]]
  obtain ⟨n, hn⟩ := ex ((opAt op).1)
  obtain ⟨p, hp⟩ := ex ((opAt op).2.1)
  obtain ⟨q, hq⟩ := ex ((opAt op).2.2.1)
  obtain ⟨l, hl⟩ := ex ((opAt op).2.2.2.1)
  obtain ⟨g, hg⟩ := ex ((opAt op).2.2.2.2)
  have hk := known_any op
  rw [hn, hp, hq, hl, hg] at hk
  rw [k3] at hk
  clear k1 k3 hn hp hq hl hg
  have hk := hidden hk
  have B0 := Blk.new w [.int .i64 op, .int .u32 arg] 63
  have E0 : Ext w (w.alloc (.cells #[.int .i64 op, .int .u32 arg] 63)) := (Ext.refl w).alloc _
  go_enter Tryz.func85, Tryz.ntmps85
  go_wp2_with fail
  refine (hk.out _).mono ?_
  rintro e1 w1 ⟨rfl, g1⟩
  have Bx := Blk.new w1 [.string n, .string p, .string q, .int .u64 l, .bool g] 120
  replace B0 := (B0.ext g1).alloc (.cells #[.string n, .string p, .string q, .int .u64 l, .bool g] 120)
  replace E0 := (E0.trans g1).alloc (.cells #[.string n, .string p, .string q, .int .u64 l, .bool g] 120)
  obtain ⟨q0, q1⟩ := B0.c2
  have lb := (Blk.ext (Blk.new w [.int .i64 op, .int .u32 arg] 63) g1).cell 1 _ rfl
  go_wp2_with fail
  go_ret
  exact ⟨rfl, E0⟩
theorem ieffect_any (op : Int) (w : World) : Calls Tryz.prog 72 #[.int .i64 op] w fun x w' => x = .returned (.tuple #[.string (opAt op).2.1, .string (opAt op).2.2.1, .bool (isOp op)]) ∧ Ext w w' := by
 obtain ⟨b, hb⟩ := ex (isOp op)
 obtain ⟨n, hn⟩ := ex ((opAt op).1)
 obtain ⟨p, hp⟩ := ex ((opAt op).2.1)
 obtain ⟨q, hq⟩ := ex ((opAt op).2.2.1)
 obtain ⟨l, hl⟩ := ex ((opAt op).2.2.2.1)
 obtain ⟨g, hg⟩ := ex ((opAt op).2.2.2.2)
 have hk := known_any op
 rw [hn, hp, hq, hl, hg] at hk
 rw [hb] at hk
 rw [hp, hq, hb]
 clear hn hp hq hl hg hb
 have hk := hidden hk
 go_enter Tryz.func72, Tryz.ntmps72
 go_wp2_with fail
 refine (hk.out _).mono ?_
 rintro e1 w1 ⟨rfl, g1⟩
 go_upto_region 2 with fail
 go_quiet (fail)
 go_wp2_with fail
 go_ret3
 exact ⟨rfl, (g1.alloc _).drewN _⟩
set_option linter.unusedVariables false
set_option linter.unusedSimpArgs false
abbrev Vl := Int × Bool
structure Frm where
 base : Int
 beg : Int
 left : Int
 loop : Bool
abbrev noF : Frm := ⟨0, 0, 0, false⟩
structure Env where
 A : List (Bool × Int)
 L : Int
 C : List (Int × Int)
 P : List Int
 inp : Int
 ended : Bool
 fuel : Int
structure MS where
 ar : List (List Int)
 cx : List Int
 pc : Int
 st : List Vl
 fr : List Frm
 lo : List Int
 out : List Int
 steps : Int
inductive Rs where
 | stuck : Rs
 | err : Int → Rs
 | go : MS → Rs
def opC (C : List (Int × Int)) (i : Nat) : Int := (C.getD i (0, 0)).1
abbrev Out := Except Int (List (List Int) × List Int × List Int × Int)
def tyOk : List UInt8 → List Vl → Bool
 | t :: ts, v :: vs => (if t = 110 then !v.2 else if t = 116 then v.2 else true) && tyOk ts vs
 | _, _ => true
def popF (tys : List UInt8) (st : List Vl) (base : Int) : Except Int (List Vl × List Vl) :=
 if (st.length : Int) - tys.length < base then .error 14
 else if tyOk tys (st.drop (st.length - tys.length)) then .ok (st.drop (st.length - tys.length), st.take (st.length - tys.length)) else .error 13
def pushF (l : List Vl) (s : MS) : Rs := if 32 < (s.st ++ l).length then .err 14 else .go { s with st := s.st ++ l }
def baseF (fr : List Frm) : Int := match fr.getLast? with
 | none => 0
 | some f => f.base
def toF (E : Env) (pc : Int) : Option Nat :=
 if 0 ≤ pc ∧ pc < E.P.length ∧ 0 ≤ E.P.getD pc.toNat 0 ∧ E.P.getD pc.toNat 0 < E.C.length then some (E.P.getD pc.toNat 0).toNat else none
def tickF (E : Env) (s : MS) : Rs := if s.steps < E.fuel then .go { s with steps := s.steps + 1 } else .err 19
def chooseF (E : Env) (c : Int) (s : MS) : Rs :=
 if 8 ≤ s.fr.length then .stuck else
 if c ≠ 0 then .go { s with fr := s.fr ++ [⟨s.st.length, s.pc, 0, false⟩] } else
 match toF E s.pc with
 | none => .stuck
 | some t => if opC E.C t = 31 then .go { s with fr := s.fr ++ [⟨s.st.length, s.pc, 0, false⟩], pc := (t : Int) - 1 }
  else if opC E.C t = 28 then .go { s with fr := s.fr ++ [⟨s.st.length, s.pc, 0, false⟩], pc := t } else .stuck
def otherF (E : Env) (s : MS) : Rs :=
 match s.fr.getLast? with
 | none => .stuck
 | some f => if (s.st.length : Int) ≠ f.base then .err 14 else
  match toF E s.pc with
  | none => .stuck
  | some t => if opC E.C t = 31 ∧ f.loop = false then .go { s with pc := (t : Int) - 1 } else .stuck
def loopF (E : Env) (c : Int) (s : MS) : Rs :=
 if 65536 < c then .err 18 else
 if c = 0 then match toF E s.pc with
  | none => .stuck
  | some t => .go { s with pc := t }
 else if 8 ≤ s.fr.length then .stuck else tickF E { s with fr := s.fr ++ [⟨s.st.length, s.pc, c, true⟩] }
def llF (fr : List Frm) : Nat → Option Nat
 | 0 => none
 | k + 1 => if (fr.getD k noF).loop then some k else llF fr k
def leaveF (E : Env) (c : Int) (s : MS) : Rs :=
 match llF s.fr s.fr.length with
 | none => .stuck
 | some k => if (s.st.length : Int) ≠ (s.fr.getD k noF).base then .err 14 else
  if c = 0 then .go s else
  match toF E s.pc with
  | none => .stuck
  | some t => .go { s with pc := t, fr := s.fr.take k }
def endF (E : Env) (s : MS) : Rs :=
 match s.fr.getLast? with
 | none => .stuck
 | some f => if (s.st.length : Int) ≠ f.base then .err 14 else
  if f.loop = true ∧ 1 < f.left then tickF E { s with fr := s.fr.dropLast ++ [{ f with left := f.left - 1 }], pc := f.beg }
  else .go { s with fr := s.fr.dropLast }
def vl (l : List Vl) (i : Nat) : Vl := l.getD i (0, false)
def calB (l : List Vl) : Int := if 1 < l.length then (vl l 1).1 else 0
def calcF (op : Int) (l : List Vl) (s : MS) : Rs :=
 if (apF op (vl l 0).1 (calB l)).2 ≠ 0 then .err (apF op (vl l 0).1 (calB l)).2 else pushF [((apF op (vl l 0).1 (calB l)).1, (opAt op).2.2.1 == ⟨#[116]⟩)] s
def getF (arg : Int) (i : Int) (s : MS) : Rs :=
 if ((s.ar.getD arg.toNat []).length : Int) ≤ i then .err 16 else pushF [((s.ar.getD arg.toNat []).getD i.toNat 0, false)] s
def putF (E : Env) (arg : Int) (i x : Int) (s : MS) : Rs :=
 if ((s.ar.getD arg.toNat []).length : Int) ≤ i then .err 16 else .go { s with ar := s.ar.set arg.toNat ((s.ar.getD arg.toNat []).set i.toNat (if (E.A.getD arg.toNat (false, 0)).1 = true then x else x % 256)) }
def emitF (x : Int) (s : MS) : Rs := if s.out.length < 65536 then .go { s with out := s.out ++ [x % 256] } else .err 5
def exeF (E : Env) (op arg : Int) (l : List Vl) (s : MS) : Rs :=
 if op = 0 then pushF [(arg, false)] s else
 if op = 1 then pushF [(s.lo.getD arg.toNat 0, false)] s else
 if op = 2 then .go { s with lo := s.lo.set arg.toNat (vl l 0).1 } else
 if op = 3 then getF arg (vl l 0).1 s else
 if op = 4 then putF E arg (vl l 0).1 (vl l 1).1 s else
 if op = 5 then pushF [vl l 0, vl l 0] s else
 if op = 6 then .go s else
 if op = 7 then pushF [vl l 1, vl l 0] s else
 if op = 27 then chooseF E (vl l 0).1 s else
 if op = 28 then otherF E s else
 if op = 29 then loopF E (vl l 0).1 s else
 if op = 30 then leaveF E (vl l 0).1 s else
 if op = 31 then endF E s else
 if op = 32 then pushF [(E.inp, false)] s else
 if op = 33 then pushF [(if E.ended = true then 1 else 0, true)] s else
 if op = 34 then emitF (vl l 0).1 s else
 if op = 35 then .go { s with cx := s.cx.set arg.toNat (vl l 0).1 } else
 calcF op l s
def exiF (E : Env) (op arg : Int) : Bool :=
 if op = 1 ∨ op = 2 then decide (arg < E.L) else if op = 3 ∨ op = 4 then decide (arg < E.A.length) else true
def nextF : Rs → Rs
 | .go s => .go { s with pc := s.pc + 1 }
 | r => r
def opS (E : Env) (s : MS) : Int := (E.C.getD s.pc.toNat (0, 0)).1
def argS (E : Env) (s : MS) : Int := (E.C.getD s.pc.toNat (0, 0)).2
def s1F (E : Env) (s : MS) (r : List Vl) : MS := { s with st := r, steps := if opS E s = 28 ∨ opS E s = 31 then s.steps else s.steps + 1 }
def stepF (E : Env) (s : MS) : Rs :=
 if ¬ (opS E s = 28 ∨ opS E s = 31) ∧ ¬ s.steps < E.fuel then .err 19 else
 if exiF E (opS E s) (argS E s) = false then .err 2 else
 match popF (opAt (opS E s)).2.1.data.toList s.st (baseF s.fr) with
 | .error e => .err e
 | .ok (l, r) => nextF (exeF E (opS E s) (argS E s) l (s1F E s r))
def runN (E : Env) : Nat → MS → Option Out
 | 0, _ => none
 | n + 1, s => if (E.C.length : Int) ≤ s.pc then (if s.st = [] then some (.ok (s.ar, s.cx, s.out, s.steps)) else some (.error 14)) else
  match stepF E s with
  | .stuck => none
  | .err e => some (.error e)
  | .go s' => runN E n s'
theorem ite_both {α : Type} (P : α → Prop) {c : Prop} [Decidable c] {a b : α} (h1 : c → P a) (h2 : ¬ c → P b) : P (if c then a else b) := by
 by_cases h : c
 ·rw [if_pos h]; exact h1 h
 ·rw [if_neg h]; exact h2 h
def U32 (x : Int) : Prop := 0 ≤ x ∧ x ≤ 4294967295
structure OkE (E : Env) : Prop where
 L0 : 0 ≤ E.L
 L1 : E.L ≤ 16
 A8 : E.A.length ≤ 8
 C0 : E.C.length ≤ 1024
 P0 : E.P.length = E.C.length
 okc : ∀ x ∈ E.C, 0 ≤ x.1 ∧ x.1 < 36 ∧ U32 x.2 ∧ (x.1 = 35 → x.2 < 16)
 inp : U32 E.inp
 f1 : E.fuel ≤ 281474976710656
structure OkS (E : Env) (s : MS) : Prop where
 s0 : 0 ≤ s.steps
 s1 : s.steps ≤ 281474976710656
 st : s.st.length ≤ 32
 stv : ∀ v ∈ s.st, U32 v.1
 fr : s.fr.length ≤ 8
 frv : ∀ f ∈ s.fr, 0 ≤ f.base ∧ f.base ≤ 32 ∧ 0 ≤ f.beg ∧ f.beg < E.C.length ∧ f.loop = decide (opC E.C f.beg.toNat = 29) ∧ 0 ≤ f.left ∧ f.left ≤ 65536
 ar : s.ar.length = E.A.length
 arv : ∀ a ∈ s.ar, a.length ≤ 65536 ∧ ∀ x ∈ a, U32 x
 lo : (s.lo.length : Int) = E.L
 lov : ∀ x ∈ s.lo, U32 x
 cx : s.cx.length = 16
 cxv : ∀ x ∈ s.cx, U32 x
 out : s.out.length ≤ 65536
 outv : ∀ x ∈ s.out, 0 ≤ x ∧ x ≤ 255
theorem toF_some {E : Env} {pc : Int} {t : Nat} (h : toF E pc = some t) : 0 ≤ pc ∧ pc < E.P.length ∧ E.P.getD pc.toNat 0 = (t : Int) ∧ t < E.C.length := by
 unfold toF at h
 split at h
 next hc => simp only [Option.some.injEq] at h; omega
 ·cases h
theorem toF_mk {E : Env} {k t : Nat} (h1 : k < E.P.length) (h2 : E.P.getD k 0 = (t : Int)) (h3 : t < E.C.length) : toF E (k : Int) = some t := by
 unfold toF
 rw [Int.toNat_natCast, h2, if_pos ⟨by omega, by omega, by omega, by omega⟩, Int.toNat_natCast]
def Keeps (E : Env) (r : Rs) : Prop := ∀ s', r = .go s' → OkS E s' ∧ 0 ≤ s'.pc + 1 ∧ s'.pc + 1 ≤ E.C.length
theorem Keeps.stuck (E : Env) : Keeps E .stuck := fun s' h => by cases h
theorem Keeps.err (E : Env) (e : Int) : Keeps E (.err e) := fun s' h => by cases h
theorem Keeps.go {E : Env} {s : MS} (h : OkS E s) (h0 : 0 ≤ s.pc + 1) (h1 : s.pc + 1 ≤ E.C.length) : Keeps E (.go s) := fun s' e => by cases e; exact ⟨h, h0, h1⟩
theorem getD_mem {α : Type} {l : List α} {i : Nat} {d : α} (h : i < l.length) : l.getD i d ∈ l := by
 rw [List.getD_eq_getElem?_getD, List.getElem?_eq_getElem h]; exact List.getElem_mem h
theorem u32_at {l : List Int} (h : ∀ x ∈ l, U32 x) (i : Nat) : U32 (l.getD i 0) := by
 by_cases hi : i < l.length
 ·exact h _ (getD_mem hi)
 ·rw [List.getD_eq_getElem?_getD, List.getElem?_eq_none (by omega)]; exact ⟨by decide, by decide⟩
theorem u32_set {l : List Int} (h : ∀ x ∈ l, U32 x) (i : Nat) {y : Int} (hy : U32 y) : ∀ x ∈ l.set i y, U32 x := by
 intro x hx
 rcases List.mem_or_eq_of_mem_set hx with h1 | rfl
 ·exact h x h1
 ·exact hy
theorem keeps_push {E : Env} {s : MS} {l : List Vl} (h : OkS E s) (hl : ∀ v ∈ l, U32 v.1) (h0 : 0 ≤ s.pc + 1) (h1 : s.pc + 1 ≤ E.C.length) : Keeps E (pushF l s) := by
 unfold pushF
 split
 ·exact Keeps.err _ _
 next hc =>
  refine Keeps.go { h with st := by simpa using hc, stv := ?_ } h0 h1
  intro v hv
  rcases List.mem_append.1 hv with hv | hv
  ·exact h.stv v hv
  ·exact hl v hv
theorem keeps_tick {E : Env} {s : MS} (hE : OkE E) (h : OkS E s) (h0 : 0 ≤ s.pc + 1) (h1 : s.pc + 1 ≤ E.C.length) : Keeps E (tickF E s) := by
 unfold tickF
 split
 next hc =>
  refine Keeps.go { h with s0 := ?_, s1 := ?_ } h0 h1
  ·have := h.s0; show 0 ≤ s.steps + 1; omega
  ·have := hE.f1; show s.steps + 1 ≤ _; omega
 ·exact Keeps.err _ _
theorem OkS.withFr {E : Env} {s : MS} (h : OkS E s) (fr : List Frm) (pc : Int) (hl : fr.length ≤ 8) (hv : ∀ f ∈ fr, 0 ≤ f.base ∧ f.base ≤ 32 ∧ 0 ≤ f.beg ∧ f.beg < E.C.length ∧ f.loop = decide (opC E.C f.beg.toNat = 29) ∧ 0 ≤ f.left ∧ f.left ≤ 65536) :
  OkS E { s with fr := fr, pc := pc } := { h with fr := hl, frv := hv }
theorem OkS.frame {E : Env} {s : MS} (h : OkS E s) (h0 : 0 ≤ s.pc) (h1 : s.pc < E.C.length) (left : Int) (lp : Bool) (hlp : lp = decide (opC E.C s.pc.toNat = 29)) (l0 : 0 ≤ left) (l1 : left ≤ 65536) (h8 : ¬ 8 ≤ s.fr.length) (pc : Int) :
  OkS E { s with fr := s.fr ++ [⟨s.st.length, s.pc, left, lp⟩], pc := pc } := by
 refine h.withFr _ _ (by simp; omega) ?_
 intro f hf
 rcases List.mem_append.1 hf with hf | hf
 ·exact h.frv f hf
 ·simp only [List.mem_singleton] at hf
  subst hf
  have := h.st
  exact ⟨by show (0 : Int) ≤ ((s.st.length : Nat) : Int); omega, by show ((s.st.length : Nat) : Int) ≤ 32; omega, h0, h1, hlp, l0, l1⟩
theorem last_mem {α : Type} {l : List α} {x : α} (h : l.getLast? = some x) : x ∈ l := List.mem_of_getLast? h
theorem apV_u32 (op a b : Int) (ha : U32 a) (hb : U32 b) : U32 (apF op a b).1 := by
 unfold apF
 split
 ·exact ⟨by decide, by decide⟩
 ·split
  ·exact ⟨by decide, by decide⟩
  ·exact apV_bd op a b ha.1 ha.2 hb.1 hb.2
set_option linter.unusedVariables false
set_option linter.unusedSimpArgs false
theorem u32_vl {l : List Vl} (h : ∀ v ∈ l, U32 v.1) (i : Nat) : U32 (vl l i).1 := by
 unfold vl
 by_cases hi : i < l.length
 ·exact h _ (getD_mem hi)
 ·rw [List.getD_eq_getElem?_getD, List.getElem?_eq_none (by omega)]; exact ⟨by decide, by decide⟩
theorem keeps_choose {E : Env} {s : MS} (hE : OkE E) (h : OkS E s) (h0 : 0 ≤ s.pc) (h1 : s.pc < E.C.length) (c : Int) (hop : opC E.C s.pc.toNat = 27) : Keeps E (chooseF E c s) := by
 unfold chooseF
 split
 ·exact Keeps.stuck _
 next h8 =>
  have hf : false = decide (opC E.C s.pc.toNat = 29) := by rw [hop]; rfl
  split
  ·exact Keeps.go (h.frame h0 h1 0 false hf (by omega) (by omega) h8 s.pc) (by show 0 ≤ s.pc + 1; omega) (by show s.pc + 1 ≤ _; omega)
  ·split
   ·exact Keeps.stuck _
   next t ht =>
    obtain ⟨-, -, -, t1⟩ := toF_some ht
    split
    ·exact Keeps.go (h.frame h0 h1 0 false hf (by omega) (by omega) h8 _) (by show 0 ≤ (t : Int) - 1 + 1; omega) (by show (t : Int) - 1 + 1 ≤ _; omega)
    ·split
     ·exact Keeps.go (h.frame h0 h1 0 false hf (by omega) (by omega) h8 _) (by show 0 ≤ (t : Int) + 1; omega) (by show (t : Int) + 1 ≤ _; omega)
     ·exact Keeps.stuck _
theorem keeps_other {E : Env} {s : MS} (h : OkS E s) : Keeps E (otherF E s) := by
 unfold otherF
 split
 ·exact Keeps.stuck _
 ·split
  ·exact Keeps.err _ _
  ·split
   ·exact Keeps.stuck _
   next t ht =>
    obtain ⟨-, -, -, t1⟩ := toF_some ht
    split
    ·exact Keeps.go (h.withFr s.fr _ h.fr h.frv) (by show 0 ≤ (t : Int) - 1 + 1; omega) (by show (t : Int) - 1 + 1 ≤ _; omega)
    ·exact Keeps.stuck _
theorem keeps_loop {E : Env} {s : MS} (hE : OkE E) (h : OkS E s) (h0 : 0 ≤ s.pc) (h1 : s.pc < E.C.length) (c : Int) (hc : U32 c) (hop : opC E.C s.pc.toNat = 29) : Keeps E (loopF E c s) := by
 unfold loopF
 split
 ·exact Keeps.err _ _
 next hc2 =>
  split
  ·split
   ·exact Keeps.stuck _
   next t ht =>
    obtain ⟨-, -, -, t1⟩ := toF_some ht
    exact Keeps.go (h.withFr s.fr _ h.fr h.frv) (by show 0 ≤ (t : Int) + 1; omega) (by show (t : Int) + 1 ≤ _; omega)
  ·split
   ·exact Keeps.stuck _
   next h8 =>
    have hf : true = decide (opC E.C s.pc.toNat = 29) := by rw [hop]; rfl
    exact keeps_tick hE (h.frame h0 h1 c true hf hc.1 (by omega) h8 s.pc) (by show 0 ≤ s.pc + 1; omega) (by show s.pc + 1 ≤ _; omega)
theorem keeps_leave {E : Env} {s : MS} (h : OkS E s) (h0 : 0 ≤ s.pc) (h1 : s.pc < E.C.length) (c : Int) : Keeps E (leaveF E c s) := by
 unfold leaveF
 split
 ·exact Keeps.stuck _
 next k hk =>
  split
  ·exact Keeps.err _ _
  ·split
   ·exact Keeps.go h (by omega) (by omega)
   ·split
    ·exact Keeps.stuck _
    next t ht =>
     obtain ⟨-, -, -, t1⟩ := toF_some ht
     refine Keeps.go (h.withFr _ _ ?_ (fun f hf => h.frv f (List.mem_of_mem_take hf))) (by show 0 ≤ (t : Int) + 1; omega) (by show (t : Int) + 1 ≤ _; omega)
     have := h.fr
     have := List.length_take_le k s.fr
     have := List.length_take_le' k s.fr
     omega
theorem keeps_end {E : Env} {s : MS} (hE : OkE E) (h : OkS E s) (h0 : 0 ≤ s.pc) (h1 : s.pc < E.C.length) : Keeps E (endF E s) := by
 unfold endF
 split
 ·exact Keeps.stuck _
 next f hf =>
  obtain ⟨f1, f2, f3, f4, f5, f6, f7⟩ := h.frv f (last_mem hf)
  have hd : ∀ g ∈ s.fr.dropLast, g ∈ s.fr := fun g hg => List.dropLast_subset _ hg
  split
  ·exact Keeps.err _ _
  ·split
   next hl =>
    refine keeps_tick hE (h.withFr _ _ ?_ ?_) (by show 0 ≤ f.beg + 1; omega) (by show f.beg + 1 ≤ _; omega)
    ·have := h.fr
     have : s.fr ≠ [] := fun e => by rw [e] at hf; simp at hf
     have := List.length_pos_iff.2 this
     simp; omega
    ·intro g hg
     rcases List.mem_append.1 hg with hg | hg
     ·exact h.frv g (hd g hg)
     ·simp only [List.mem_singleton] at hg
      subst hg
      exact ⟨f1, f2, f3, f4, f5, by show 0 ≤ f.left - 1; omega, by show f.left - 1 ≤ _; omega⟩
   ·refine Keeps.go (h.withFr _ s.pc ?_ (fun g hg => h.frv g (hd g hg))) (by show 0 ≤ s.pc + 1; omega) (by show s.pc + 1 ≤ _; omega)
    have := h.fr
    simp; omega
theorem keeps_get {E : Env} {s : MS} (h : OkS E s) (arg i : Int) (h0 : 0 ≤ s.pc + 1) (h1 : s.pc + 1 ≤ E.C.length) : Keeps E (getF arg i s) := by
 unfold getF
 split
 ·exact Keeps.err _ _
 ·refine keeps_push h (fun v hv => ?_) h0 h1
  simp only [List.mem_singleton] at hv
  subst hv
  refine u32_at (fun x hx => ?_) _
  by_cases ha : arg.toNat < s.ar.length
  ·exact (h.arv _ (getD_mem ha)).2 x hx
  ·rw [List.getD_eq_getElem?_getD, List.getElem?_eq_none (by omega)] at hx; simp at hx
theorem keeps_put {E : Env} {s : MS} (h : OkS E s) (arg i x : Int) (hx : U32 x) (h0 : 0 ≤ s.pc + 1) (h1 : s.pc + 1 ≤ E.C.length) : Keeps E (putF E arg i x s) := by
 unfold putF
 split
 ·exact Keeps.err _ _
 ·refine Keeps.go { h with ar := by rw [List.length_set]; exact h.ar, arv := ?_ } h0 h1
  intro a ha
  rcases List.mem_or_eq_of_mem_set ha with ha | rfl
  ·exact h.arv a ha
  ·by_cases hi : arg.toNat < s.ar.length
   ·have := h.arv _ (getD_mem (d := []) hi)
    refine ⟨by rw [List.length_set]; exact this.1, u32_set this.2 _ ?_⟩
    split
    ·exact hx
    ·exact ⟨by omega, by omega⟩
   ·rw [show s.ar.getD arg.toNat [] = [] by rw [List.getD_eq_getElem?_getD, List.getElem?_eq_none (by omega)]; rfl]
    simp
theorem keeps_emit {E : Env} {s : MS} (h : OkS E s) (x : Int) (h0 : 0 ≤ s.pc + 1) (h1 : s.pc + 1 ≤ E.C.length) : Keeps E (emitF x s) := by
 unfold emitF
 split
 ·refine Keeps.go { h with out := by simp; omega, outv := ?_ } h0 h1
  intro y hy
  rcases List.mem_append.1 hy with hy | hy
  ·exact h.outv y hy
  ·simp only [List.mem_singleton] at hy; omega
 ·exact Keeps.err _ _
theorem keeps_calc {E : Env} {s : MS} (h : OkS E s) (op : Int) (l : List Vl) (hl : ∀ v ∈ l, U32 v.1) (h0 : 0 ≤ s.pc + 1) (h1 : s.pc + 1 ≤ E.C.length) : Keeps E (calcF op l s) := by
 unfold calcF
 split
 ·exact Keeps.err _ _
 ·refine keeps_push h (fun v hv => ?_) h0 h1
  simp only [List.mem_singleton] at hv
  subst hv
  refine apV_u32 _ _ _ (u32_vl hl 0) ?_
  unfold calB
  split
  ·exact u32_vl hl 1
  ·exact ⟨by decide, by decide⟩
theorem keeps_exe {E : Env} {s : MS} (hE : OkE E) (h : OkS E s) (h0 : 0 ≤ s.pc) (h1 : s.pc < E.C.length) (op arg : Int) (l : List Vl) (hl : ∀ v ∈ l, U32 v.1) (hop : opS E s = op) (harg0 : argS E s = arg) : Keeps E (exeF E op arg l s) := by
 have hopc : opC E.C s.pc.toNat = op := hop
 have harg : U32 arg := by
  have := (hE.okc _ (getD_mem (l := E.C) (i := s.pc.toNat) (d := (0, 0)) (by omega))).2.2.1
  rw [← harg0]; exact this
 have b0 : 0 ≤ s.pc + 1 := by omega
 have b1 : s.pc + 1 ≤ E.C.length := by omega
 have v0 := u32_vl hl 0
 have v1 := u32_vl hl 1
 have one : ∀ v : Vl, U32 v.1 → ∀ u ∈ [v], U32 u.1 := fun v hv u hu => by simp only [List.mem_singleton] at hu; subst hu; exact hv
 have two : ∀ v u : Vl, U32 v.1 → U32 u.1 → ∀ x ∈ [v, u], U32 x.1 := fun v u hv hu x hx => by
  simp only [List.mem_cons, List.not_mem_nil, or_false] at hx
  rcases hx with rfl | rfl
  ·exact hv
  ·exact hu
 unfold exeF
 refine ite_both (Keeps E) (fun _ => ?_) (fun _ => ?_)
 ·exact keeps_push h (one _ harg) b0 b1
 refine ite_both (Keeps E) (fun _ => ?_) (fun _ => ?_)
 ·exact keeps_push h (one _ (u32_at h.lov _)) b0 b1
 refine ite_both (Keeps E) (fun _ => ?_) (fun _ => ?_)
 ·exact Keeps.go { h with lo := by rw [List.length_set]; exact h.lo, lov := u32_set h.lov _ v0 } b0 b1
 refine ite_both (Keeps E) (fun _ => ?_) (fun _ => ?_)
 ·exact keeps_get h _ _ b0 b1
 refine ite_both (Keeps E) (fun _ => ?_) (fun _ => ?_)
 ·exact keeps_put h _ _ _ v1 b0 b1
 refine ite_both (Keeps E) (fun _ => ?_) (fun _ => ?_)
 ·exact keeps_push h (two _ _ v0 v0) b0 b1
 refine ite_both (Keeps E) (fun _ => ?_) (fun _ => ?_)
 ·exact Keeps.go h b0 b1
 refine ite_both (Keeps E) (fun _ => ?_) (fun _ => ?_)
 ·exact keeps_push h (two _ _ v1 v0) b0 b1
 refine ite_both (Keeps E) (fun e => ?_) (fun _ => ?_)
 ·exact keeps_choose hE h h0 h1 _ (hopc.trans e)
 refine ite_both (Keeps E) (fun _ => ?_) (fun _ => ?_)
 ·exact keeps_other h
 refine ite_both (Keeps E) (fun e => ?_) (fun _ => ?_)
 ·exact keeps_loop hE h h0 h1 _ v0 (hopc.trans e)
 refine ite_both (Keeps E) (fun _ => ?_) (fun _ => ?_)
 ·exact keeps_leave h h0 h1 _
 refine ite_both (Keeps E) (fun _ => ?_) (fun _ => ?_)
 ·exact keeps_end hE h h0 h1
 refine ite_both (Keeps E) (fun _ => ?_) (fun _ => ?_)
 ·exact keeps_push h (one _ hE.inp) b0 b1
 refine ite_both (Keeps E) (fun _ => ?_) (fun _ => ?_)
 ·refine keeps_push h (one _ ?_) b0 b1
  show U32 (if E.ended = true then 1 else 0)
  split
  ·exact ⟨by decide, by decide⟩
  ·exact ⟨by decide, by decide⟩
 refine ite_both (Keeps E) (fun _ => ?_) (fun _ => ?_)
 ·exact keeps_emit h _ b0 b1
 refine ite_both (Keeps E) (fun _ => ?_) (fun _ => ?_)
 ·exact Keeps.go { h with cx := by rw [List.length_set]; exact h.cx, cxv := u32_set h.cxv _ v0 } b0 b1
 exact keeps_calc h _ _ hl b0 b1
theorem pop_mem {tys : List UInt8} {st l r : List Vl} {b : Int} (h : popF tys st b = .ok (l, r)) : (∀ v ∈ l, v ∈ st) ∧ (∀ v ∈ r, v ∈ st) ∧ r.length ≤ st.length := by
 unfold popF at h
 split at h
 ·cases h
 ·split at h
  ·simp only [Except.ok.injEq, Prod.mk.injEq] at h
   obtain ⟨rfl, rfl⟩ := h
   exact ⟨fun v hv => List.mem_of_mem_drop hv, fun v hv => List.mem_of_mem_take hv, List.length_take_le' _ _⟩
  ·cases h
theorem oks_s1 {E : Env} {s : MS} {l r : List Vl} {tys : List UInt8} {b : Int} (hE : OkE E) (h : OkS E s) (hs : opS E s = 28 ∨ opS E s = 31 ∨ s.steps < E.fuel) (hp : popF tys s.st b = .ok (l, r)) : OkS E (s1F E s r) := by
 obtain ⟨m1, m2, m3⟩ := pop_mem hp
 have h1 := h.st
 have h2 := h.s0
 have h3 := hE.f1
 have h4 := h.s1
 refine { h with st := by show r.length ≤ 32; omega, stv := fun v hv => h.stv v (m2 v hv), s0 := ?_, s1 := ?_ }
 ·show 0 ≤ if opS E s = 28 ∨ opS E s = 31 then s.steps else s.steps + 1
  split <;> omega
 ·show (if opS E s = 28 ∨ opS E s = 31 then s.steps else s.steps + 1) ≤ _
  split
  ·exact h4
  next hn =>
   have hlt : s.steps < E.fuel := by rcases hs with h1 | h1 | h1; exact absurd (Or.inl h1) hn; exact absurd (Or.inr h1) hn; exact h1
   omega
theorem step_may {E : Env} {s : MS} (hs : ¬ (¬ (opS E s = 28 ∨ opS E s = 31) ∧ ¬ s.steps < E.fuel)) : opS E s = 28 ∨ opS E s = 31 ∨ s.steps < E.fuel := by
 by_cases a : opS E s = 28
 ·exact Or.inl a
 ·by_cases b : opS E s = 31
  ·exact Or.inr (Or.inl b)
  ·exact Or.inr (Or.inr (by by_cases c : s.steps < E.fuel; exact c; exact absurd ⟨fun h => h.elim a b, c⟩ hs))
theorem keeps_step {E : Env} {s s' : MS} (hE : OkE E) (h : OkS E s) (h0 : 0 ≤ s.pc) (h1 : s.pc < E.C.length) (hg : stepF E s = .go s') : OkS E s' ∧ 0 ≤ s'.pc ∧ s'.pc ≤ E.C.length := by
 unfold stepF at hg
 split at hg
 ·cases hg
 next hs =>
 split at hg
 ·cases hg
 split at hg
 ·cases hg
 next l r hp =>
 have o1 := oks_s1 hE h (step_may hs) hp
 have hk := keeps_exe hE o1 h0 h1 (opS E s) (argS E s) l (fun v hv => h.stv v ((pop_mem hp).1 v hv)) rfl rfl
 revert hg hk
 generalize exeF E _ _ l (s1F E s r) = R
 intro hg hk
 cases R with
 | stuck => cases hg
 | err e => cases hg
 | go s2 =>
  obtain ⟨k1, k2, k3⟩ := hk s2 rfl
  simp only [nextF, Rs.go.injEq] at hg
  subst hg
  exact ⟨{ k1 with }, k2, k3⟩
end Go.Proofs.YtgjjklajipekdaaGreat
