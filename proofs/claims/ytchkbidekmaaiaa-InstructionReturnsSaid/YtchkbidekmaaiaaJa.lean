/- The table of the operations. -/
import Derived.Test.YtchkbidekmaaiaaRows
import Derived.Test.YtchkbidekmaaiaaM
import Derived.Test.YtchkbidekmaaiaaMb
import Derived.Deep.WholeRow
import Derived.Laws.Rows
import Derived.Deep.MidRow
import Derived.Deep.CutRange
import Derived.Outline
namespace Go.Proofs.Ytchkbidekmaaiaa
open Go.RowKit
set_option linter.unusedVariables false


/-- Name, what it pops, what it pushes, the first Arg that is not allowed, has it an Arg? -/
def opsTab : List (ByteArray × ByteArray × ByteArray × Int × Bool) := [(⟨#[112, 117, 115, 104]⟩, ⟨#[]⟩, ⟨#[110]⟩, 4294967296, true),
  (⟨#[108, 111, 97, 100]⟩, ⟨#[]⟩, ⟨#[110]⟩, 16, true),
  (⟨#[115, 116, 111, 114, 101]⟩, ⟨#[110]⟩, ⟨#[]⟩, 16, true),
  (⟨#[103, 101, 116]⟩, ⟨#[110]⟩, ⟨#[110]⟩, 8, true),
  (⟨#[112, 117, 116]⟩, ⟨#[110, 110]⟩, ⟨#[]⟩, 8, true),
  (⟨#[100, 117, 112]⟩, ⟨#[97]⟩, ⟨#[97, 97]⟩, 1, false),
  (⟨#[100, 114, 111, 112]⟩, ⟨#[97]⟩, ⟨#[]⟩, 1, false),
  (⟨#[115, 119, 97, 112]⟩, ⟨#[97, 98]⟩, ⟨#[98, 97]⟩, 1, false),
  (⟨#[97, 100, 100]⟩, ⟨#[110, 110]⟩, ⟨#[110]⟩, 1, false),
  (⟨#[115, 117, 98]⟩, ⟨#[110, 110]⟩, ⟨#[110]⟩, 1, false),
  (⟨#[109, 117, 108]⟩, ⟨#[110, 110]⟩, ⟨#[110]⟩, 1, false),
  (⟨#[100, 105, 118]⟩, ⟨#[110, 110]⟩, ⟨#[110]⟩, 1, false),
  (⟨#[109, 111, 100]⟩, ⟨#[110, 110]⟩, ⟨#[110]⟩, 1, false),
  (⟨#[97, 110, 100]⟩, ⟨#[110, 110]⟩, ⟨#[110]⟩, 1, false),
  (⟨#[111, 114]⟩, ⟨#[110, 110]⟩, ⟨#[110]⟩, 1, false),
  (⟨#[120, 111, 114]⟩, ⟨#[110, 110]⟩, ⟨#[110]⟩, 1, false),
  (⟨#[115, 104, 108]⟩, ⟨#[110, 110]⟩, ⟨#[110]⟩, 1, false),
  (⟨#[115, 104, 114]⟩, ⟨#[110, 110]⟩, ⟨#[110]⟩, 1, false),
  (⟨#[109, 105, 110]⟩, ⟨#[110, 110]⟩, ⟨#[110]⟩, 1, false),
  (⟨#[109, 97, 120]⟩, ⟨#[110, 110]⟩, ⟨#[110]⟩, 1, false),
  (⟨#[104, 97, 115, 104]⟩, ⟨#[110, 110]⟩, ⟨#[110]⟩, 1, false),
  (⟨#[101, 113]⟩, ⟨#[110, 110]⟩, ⟨#[116]⟩, 1, false),
  (⟨#[108, 101, 115, 115]⟩, ⟨#[110, 110]⟩, ⟨#[116]⟩, 1, false),
  (⟨#[110, 111, 116]⟩, ⟨#[116]⟩, ⟨#[116]⟩, 1, false),
  (⟨#[98, 111, 116, 104]⟩, ⟨#[116, 116]⟩, ⟨#[116]⟩, 1, false),
  (⟨#[101, 105, 116, 104, 101, 114]⟩, ⟨#[116, 116]⟩, ⟨#[116]⟩, 1, false),
  (⟨#[105, 110, 116]⟩, ⟨#[116]⟩, ⟨#[110]⟩, 1, false),
  (⟨#[105, 102]⟩, ⟨#[116]⟩, ⟨#[]⟩, 1, false),
  (⟨#[101, 108, 115, 101]⟩, ⟨#[]⟩, ⟨#[]⟩, 1, false),
  (⟨#[108, 111, 111, 112]⟩, ⟨#[110]⟩, ⟨#[]⟩, 1, false),
  (⟨#[108, 101, 97, 118, 101]⟩, ⟨#[116]⟩, ⟨#[]⟩, 1, false),
  (⟨#[101, 110, 100]⟩, ⟨#[]⟩, ⟨#[]⟩, 1, false),
  (⟨#[105, 110, 112, 117, 116]⟩, ⟨#[]⟩, ⟨#[110]⟩, 1, false),
  (⟨#[101, 110, 100, 101, 100]⟩, ⟨#[]⟩, ⟨#[116]⟩, 1, false),
  (⟨#[101, 109, 105, 116]⟩, ⟨#[110]⟩, ⟨#[]⟩, 1, false),
  (⟨#[99, 111, 110, 116, 101, 120, 116]⟩, ⟨#[110]⟩, ⟨#[]⟩, 16, true)]
def opCells (x : ByteArray × ByteArray × ByteArray × Int × Bool) : List Value := [.string x.1, .string x.2.1, .string x.2.2.1, .int .u64 x.2.2.2.1, .bool x.2.2.2.2]
def opsCells : List Value := opsTab.flatMap opCells
def opsV : Array Value := opsCells.toArray
theorem opsV_size : opsV.size = 180 := by decide +kernel
theorem calc_any (s : ByteArray) (w : World) : Calls Try.prog 75 #[.string s] w fun x w' => x = .returned (.agg #[.string s, .string ⟨#[110, 110]⟩, .string ⟨#[110]⟩, .int .u64 1, .bool false]) ∧ Ext w w' := by
  go_enter Try.func75, Try.ntmps75
  go_wp2_with fail
  refine bodyPost_ret (v := .agg #[.string s, .string ⟨#[110, 110]⟩, .string ⟨#[110]⟩, .int .u64 1, .bool false]) (by simp [results, Try.results75, go_sem]) rfl ⟨rfl, ?_⟩
  repeat' (first | exact Ext.refl _ | assumption | (with_reducible refine Ext.alloc ?_ _) | (with_reducible refine Ext.drew ?_) | (with_reducible refine Ext.drewN _ ?_) | (refine Ext.setCell ?_ (by first | exact Nat.le_refl _ | (simp; done) | (simp; omega) | omega) _) | (refine Ext.trans ?_ (by assumption)))
theorem plain_any (s p q : ByteArray) (w : World) : Calls Try.prog 76 #[.string s, .string p, .string q] w fun x w' => x = .returned (.agg #[.string s, .string p, .string q, .int .u64 1, .bool false]) ∧ Ext w w' := by
  go_enter Try.func76, Try.ntmps76
  go_wp2_with fail
  refine bodyPost_ret (v := .agg #[.string s, .string p, .string q, .int .u64 1, .bool false]) (by simp [results, Try.results76, go_sem]) rfl ⟨rfl, ?_⟩
  repeat' (first | exact Ext.refl _ | assumption | (with_reducible refine Ext.alloc ?_ _) | (with_reducible refine Ext.drew ?_) | (with_reducible refine Ext.drewN _ ?_) | (refine Ext.setCell ?_ (by first | exact Nat.le_refl _ | (simp; done) | (simp; omega) | omega) _) | (refine Ext.trans ?_ (by assumption)))
theorem wpList_run_eq {P : Program} {w : World} {ops : Array Oper} {rest : List Oper} {o : Oper} {a : Act} {Q : Exit → Act → World → Prop} {v : Value} (hg : o.guard = none) (hrun : (execOp a.eval o).run P w = .ok (.value v) w) (h : wpList P ops Q rest (a.put o.dst v) w) : wpList P ops Q (o :: rest) a w := by
  refine wpList_plain hg fun K hK => ?_
  unfold Oper.wp
  rw [hrun]
  exact hK _ _ h
theorem Ext.setCells {w : World} {b : Nat} : ∀ (vs : List Value) (o : Nat) {w1 : World}, Ext w w1 → w.heap.size ≤ b → Ext w (w1.setCells b o vs)
  | [], _, _, h, _ => h
  | v :: r, o, _, h, hb => Ext.setCells r (o + 1) (h.setCell hb v) hb
theorem Blk.there {w : World} {b : Nat} {t : TypeId} {cs : List Value} (h : Blk w b t cs) : w.there b 0 cs.length := fun j hj => by
  refine ⟨?_, ?_⟩
  · rw [Nat.zero_add, h.cell j (cs[j]'hj) (List.getElem?_eq_getElem hj)]; rfl
  · rw [Nat.zero_add]; exact h.frozen j
theorem results_cell_mid {P : Program} {fn : Func} {p : Tmp} {ty : TypeId} (h : fn.results = #[.cell p ty]) (tmps : Array Value) (w : World) (g : Nat) (cs : List Value) (d : TypeDesc)
    (hp : tmps.getD p undef = .pointer (some ⟨g, 0, none⟩)) (hg : w.rangeAt g 0 cs) (hu : P.underlying ty = some d) (hd : d.isRow = true) (hi : (P.info? ty).map (·.size) = some cs.length) :
    (results fn tmps).run P w = .ok (.agg cs.toArray) w := by
  have hp' : tmps[p]?.getD undef = .pointer (some ⟨g, 0, none⟩) := by simpa using hp
  simp [results, h, hp', asAddr, run_loadVar_mid w g 0 ty cs d hg hu hd hi]
theorem there_arr {w : World} {b : Nat} {C : Array Value} {t : TypeId} (hb : w.heap[b]? = some (.cells C t (0, 0))) : w.there b 0 C.size := fun j hj => by
  refine ⟨?_, ?_⟩
  · rw [Nat.zero_add, cell_of_row w b j C t _ hb]; simp [hj]
  · rw [Nat.zero_add]; exact frozen_of_row w b j C t hb
theorem blk_ext {w w' : World} {b : Nat} {o : Obj} (hb : w.heap[b]? = some o) (h : Ext w w') : w'.heap[b]? = some o := by
  have h' : Below w.heap.size w w' := h
  rw [h'.block b (Array.getElem?_eq_some_iff.1 hb).1]; exact hb
def zeroOp : List Value := [.string ⟨#[]⟩, .string ⟨#[]⟩, .string ⟨#[]⟩, .int .u64 0, .bool false]
def zeroOps : List Value := (List.replicate 36 zeroOp).flatten
set_option maxHeartbeats 2000000 in
set_option maxRecDepth 100000 in
theorem operations_any (w : World) : Calls Try.prog 47 #[] w fun x w' => x = .returned (.agg opsV) ∧ Ext w w' := by
  go_enter Try.func47, Try.ntmps47
  go_upto_region 1 with fail
  have hz : Try.zeroCells93.size = 180 := by kernel_rfl
  have hB : (w.alloc (.cells Try.zeroCells93 93)).heap[w.heap.size]? = some (.cells Try.zeroCells93 93 (0, 0)) := heap_alloc_new w _
  have E0 : Ext w (w.alloc (.cells Try.zeroCells93 93)) := (Ext.refl w).alloc _
  have hp0 : w.heap.size < (w.alloc (.cells Try.zeroCells93 93)).heap.size := by simp
  obtain ⟨V, hV⟩ : ∃ V, w.alloc (.cells Try.zeroCells93 93) = V := ⟨_, rfl⟩
  rw [hV] at hB E0 hp0 ⊢
  clear hV
  go_wp2_with (first | (go_at_call 75; refine (calc_any _ _).mono ?_; rintro e w1 ⟨rfl, hE⟩; replace E0 := E0.trans hE; replace hB := blk_ext hB hE; clear hE) | (go_at_call 76; refine (plain_any _ _ _ _).mono ?_; rintro e w1 ⟨rfl, hE⟩; replace E0 := E0.trans hE; replace hB := blk_ext hB hE; clear hE) | (refine wpList_run_eq (o := ⟨some 69, _, _, _, _, _⟩) (by rfl) (v := .agg opsV) (by kernel_rfl) ?_) | (refine wpList_store_mid (op := ⟨none, .store 93 _ _, _, _, _, _⟩) (by rfl) 93 _ _ (by rfl) w.heap.size 0 opsV (by rfl) (by rfl) (by rw [opsV_size, ← hz]; exact there_arr hB) (by rw [opsV_size]; kernel_rfl) (by decide +kernel) ?_))
  have hth : w1.there w.heap.size 0 opsV.toList.length := by
    rw [show opsV.toList.length = 180 by simpa using opsV_size, ← hz]; exact there_arr hB
  refine bodyPost_ret (v := .agg opsV) (results_cell_mid (by rfl) _ _ w.heap.size opsV.toList _ (by rfl) (World.rangeAt_setCells_same w1 w.heap.size 0 opsV.toList hth) Try.underlying93 (by rfl) (by rw [show opsV.toList.length = 180 by simpa using opsV_size]; kernel_rfl)) (by rfl) ⟨rfl, ?_⟩
  exact Ext.setCells _ 0 E0 (Nat.le_refl _)
end Go.Proofs.Ytchkbidekmaaiaa
