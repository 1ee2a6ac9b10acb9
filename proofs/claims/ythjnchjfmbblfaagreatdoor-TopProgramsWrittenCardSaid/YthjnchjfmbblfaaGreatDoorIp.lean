/- Small general laws on worlds: what a call that only makes new blocks leaves as it was. -/
import Derived.WalkKit
import Derived.WalkSpells
import Derived.WalkLawsBesides
import Derived.IntWalk
import Derived.Handy
import Derived.MapKept
import Derived.OwnWalk
import Derived.Maps.OwnOps
namespace Go.Proofs.YthjnchjfmbblfaaGreatDoor
open Go.RowKit

theorem hidden {p : Prop} (h : p) : Hid p := h
theorem ret_int {k : IntKind} {a b : Int} (h : a = b) : Ending.returned (.int k a) = .returned (.int k b) := by rw [h]
theorem ret_bool {a b : Bool} (h : a = b) : Ending.returned (.bool a) = .returned (.bool b) := by rw [h]

/-- The world has at most new blocks. -/
def Ext (w w' : World) : Prop := Below w.heap.size w w'
theorem Ext.size {w w' : World} (h : Ext w w') : w.heap.size ≤ w'.heap.size := Below.size h
theorem Ext.refl (w : World) : Ext w w := Below.refl _ _
theorem Ext.of_eq {w w' : World} (h : w = w') : Ext w w' := h ▸ Ext.refl w
theorem Ext.trans {a b c : World} (h : Ext a b) (k : Ext b c) : Ext a c := Below.trans h (Below.mono k (Below.size h))
theorem Ext.drew {a b : World} (h : Ext a b) : Ext a b.drew := Below.drew h
theorem Ext.drewN {a b : World} (n : Nat) (h : Ext a b) : Ext a (b.drewN n) := by
  have h' : Below a.heap.size a b := h
  exact ⟨h'.os, h'.tape, h'.output, h'.size, h'.block⟩
theorem Ext.alloc {a b : World} (h : Ext a b) (o : Obj) : Ext a (b.alloc o) := Below.alloc h (Below.size h) o
theorem Ext.setCell {a b : World} (h : Ext a b) {p : Addr} (hp : a.heap.size ≤ p.block) (v : Value) : Ext a (b.setCell p v) := Below.setCell h hp v
/-- From behind a new block on. -/
theorem Ext.past {a b : World} {o : Obj} (h : Ext (a.alloc o) b) : Ext a b := ((Ext.refl a).alloc o).trans h
theorem Ext.past_drew {a b : World} (h : Ext a.drew b) : Ext a b := (Ext.refl a).drew.trans h
theorem cell_lt {w : World} {b o : Nat} {v : Value} (hc : w.cell? ⟨b, o, none⟩ = some v) : b < w.heap.size := by
  have := hc
  simp only [World.cell?] at this
  by_cases hx : b < w.heap.size
  · exact hx
  · rw [Array.getElem?_eq_none (by omega)] at this; simp at this
theorem Ext.cell {w w' : World} (h : Ext w w') {b o : Nat} {v : Value} (hc : w.cell? ⟨b, o, none⟩ = some v) : w'.cell? ⟨b, o, none⟩ = some v := by
  rw [Below.cell h (p := ⟨b, o, none⟩) (cell_lt hc)]; exact hc
theorem Ext.frozen {w w' : World} (h : Ext w w') {b o : Nat} {v : Value} {t : Bool} (hc : w.cell? ⟨b, o, none⟩ = some v) (hf : w.frozen? ⟨b, o, none⟩ = t) : w'.frozen? ⟨b, o, none⟩ = t := by
  rw [Below.frozen h (p := ⟨b, o, none⟩) (cell_lt hc)]; exact hf
/-- Old cells and marks read as before: rules for the walk. -/
theorem Ext.rules {w w' : World} (h : Ext w w') : (∀ b o, b < w.heap.size → w'.cell? ⟨b, o, none⟩ = w.cell? ⟨b, o, none⟩) ∧ (∀ b o, b < w.heap.size → w'.frozen? ⟨b, o, none⟩ = w.frozen? ⟨b, o, none⟩) :=
  ⟨fun b o hb => Below.cell h (p := ⟨b, o, none⟩) hb, fun b o hb => Below.frozen h (p := ⟨b, o, none⟩) hb⟩
/-- A new block's cell, behind a call that only makes blocks. -/
theorem Ext.box {w w' : World} {c : Array Value} {t : TypeId} (h : Ext (w.alloc (.cells c t)) w') (i : Nat) (v : Value) (hv : c[i]? = some v) :
    w'.cell? ⟨w.heap.size, i, none⟩ = some v ∧ w'.frozen? ⟨w.heap.size, i, none⟩ = false ∧ w.heap.size < w'.heap.size := by
  have hc : (w.alloc (.cells c t)).cell? ⟨w.heap.size, i, none⟩ = some v := by rw [World.cell?_alloc_at _ _ _ _ rfl]; exact hv
  refine ⟨h.cell hc, h.frozen hc (World.frozen?_alloc_at _ _ _ _ rfl), ?_⟩
  have := h.size
  simp at this
  omega
theorem set_same {w : World} {b o : Nat} {v u : Value} (hc : w.cell? ⟨b, o, none⟩ = some v) : (w.setCell ⟨b, o, none⟩ u).cell? ⟨b, o, none⟩ = some u := World.cell?_setCell_same _ _ _ hc
theorem set_other {w : World} {a b : Addr} {u v : Value} (h : a ≠ b) (hc : w.cell? b = some v) : (w.setCell a u).cell? b = some v := by rw [World.cell?_setCell_other _ _ _ _ h]; exact hc
end Go.Proofs.YthjnchjfmbblfaaGreatDoor

/- A map from integers that a text writes down: filled entry by entry, and looked up. -/
namespace Go.Proofs.YthjnchjfmbblfaaGreatDoor
open Go.RowKit Go.MapKept
set_option linter.unusedVariables false

/-- The entries of a map that is filled in the list's order. -/
def ents : Nat → List (Int × Value) → List MapEntry
  | _, [] => []
  | n, p :: r => ⟨.int .i64 p.1, p.2, n⟩ :: ents (n + 1) r
def tblObj (l : List (Int × Value)) : Obj := .map (ents 0 l).toArray l.length
def look (k : Int) : List (Int × Value) → Option Value
  | [] => none
  | p :: r => if k = p.1 then some p.2 else look k r
theorem ents_snoc (k : Int) (v : Value) : ∀ (l : List (Int × Value)) (n : Nat), ents n (l ++ [(k, v)]) = ents n l ++ [⟨.int .i64 k, v, n + l.length⟩]
  | [], n => rfl
  | p :: r, n => by
    show _ :: ents (n + 1) (r ++ [(k, v)]) = _
    rw [ents_snoc k v r (n + 1)]
    simp [ents]
    omega
theorem find_ents (k : Int) : ∀ (l : List (Int × Value)) (n i : Nat), (look k l = none → Instr.findNow (.int .i64) (.int .i64 k) (ents n l) i = some none) ∧ (∀ v, look k l = some v → ∃ j, Instr.findNow (.int .i64) (.int .i64 k) (ents n l) i = some (some (j, v)))
  | [], n, i => ⟨fun _ => rfl, fun v h => by cases h⟩
  | p :: r, n, i => by
    have ih := find_ents k r (n + 1) (i + 1)
    by_cases h : k = p.1
    · subst h
      refine ⟨fun e => ?_, fun v e => ⟨i, ?_⟩⟩
      · simp [look] at e
      · simp only [look, if_true, Option.some.injEq] at e
        subst e
        simp [ents, Instr.findNow, Instr.sameNow]
    · have hbe : (k == p.1) = false := by simp [h]
      refine ⟨fun e => ?_, fun v e => ?_⟩
      · simp only [look, h, if_false] at e
        have := ih.1 e
        simp [ents, Instr.findNow, Instr.sameNow, hbe, this]
      · simp only [look, h, if_false] at e
        obtain ⟨j, hj⟩ := ih.2 v e
        exact ⟨j, by simp [ents, Instr.findNow, Instr.sameNow, hbe, hj]⟩
theorem look_none {k : Int} : ∀ {l : List (Int × Value)}, (∀ p ∈ l, p.1 ≠ k) → look k l = none
  | [], _ => rfl
  | p :: r, h => by
    have h1 : ¬ k = p.1 := fun e => h p (by simp) e.symm
    simp only [look, h1, if_false]
    exact look_none (fun q hq => h q (by simp [hq]))

/-- A new entry. -/
theorem run_insert {P : Program} {w : World} {t kt et : TypeId} (ht : P.underlying t = some (.map kt et)) (hk : P.underlying kt = some (.int .i64)) (l : List (Int × Value)) (k : Int) (v : Value) (hnew : look k l = none) :
    (Instr.mapUpdate t (.map (some w.heap.size)) (.int .i64 k) v).run P (w.alloc (tblObj l)) = .ok () (w.alloc (tblObj (l ++ [(k, v)]))) := by
  have hb : (w.alloc (tblObj l)).heap[w.heap.size]? = some (.map (ents 0 l).toArray l.length) := (heap_alloc w _).1
  have hf := (find_ents k l 0 0).1 hnew
  unfold Instr.mapUpdate
  simp only [Sem.run_bind, run_underlying ht, Result.andThen, Go.MapKept.run_getObj_map hb, run_checkKey hk (show IsKey (.int .i64) (.int .i64 k) from rfl), run_findKey hk (l := (ents 0 l)) hf]
  rw [run_setObj_map _ hb]
  congr 1
  have e : (w.alloc (tblObj l)).heap = w.heap.push (tblObj l) := rfl
  rw [e]
  have e2 : w.alloc (tblObj (l ++ [(k, v)])) = { w.alloc (tblObj l) with heap := w.heap.push (tblObj (l ++ [(k, v)])) } := rfl
  rw [e2]
  congr 1
  rw [show tblObj (l ++ [(k, v)]) = .map ((ents 0 l).toArray.push ⟨.int .i64 k, v, l.length⟩) (l.length + 1) by
    unfold tblObj
    rw [ents_snoc]
    simp]
  have e3 : ∀ (h : Array Obj) (x y : Obj), (h.push x).setIfInBounds h.size y = h.push y := by
    intro h x y
    apply Array.ext'
    simp
  exact e3 _ _ _
theorem run_look {P : Program} {w : World} {t kt et : TypeId} (ht : P.underlying t = some (.map kt et)) (hk : P.underlying kt = some (.int .i64)) {r : Nat} (l : List (Int × Value)) (hb : w.heap[r]? = some (tblObj l)) (k : Int) (v : Value) (h : look k l = some v) :
    (Instr.lookup t (.map (some r)) (.int .i64 k) true).run P w = .ok (.tuple #[v, .bool true]) w := by
  have hb' : w.heap[r]? = some (.map (ents 0 l).toArray l.length) := hb
  obtain ⟨j, hf⟩ := (find_ents k l 0 0).2 v h
  unfold Instr.lookup
  simp only [Sem.run_bind, run_underlying ht, Result.andThen, Go.MapKept.run_getObj_map hb', run_checkKey hk (show IsKey (.int .i64) (.int .i64 k) from rfl), Sem.run_pure, run_findKey hk (l := (ents 0 l)) hf]
  rfl
theorem run_look_none {P : Program} {w : World} {t kt et : TypeId} (ht : P.underlying t = some (.map kt et)) (hk : P.underlying kt = some (.int .i64)) {r : Nat} (l : List (Int × Value)) (hb : w.heap[r]? = some (tblObj l)) (k : Int) (z : Value) (hz : (zeroValue et).run P w = .ok z w) (h : look k l = none) :
    (Instr.lookup t (.map (some r)) (.int .i64 k) true).run P w = .ok (.tuple #[z, .bool false]) w := by
  have hb' : w.heap[r]? = some (.map (ents 0 l).toArray l.length) := hb
  have hf := (find_ents k l 0 0).1 h
  unfold Instr.lookup
  simp only [Sem.run_bind, run_underlying ht, Result.andThen, Go.MapKept.run_getObj_map hb', run_checkKey hk (show IsKey (.int .i64) (.int .i64 k) from rfl), Sem.run_pure, run_findKey hk (l := (ents 0 l)) hf, hz]
  rfl
/-- At the operation. -/
theorem wpList_insert_lit {P : Program} {w : World} {ops : Array Oper} {rest : List Oper} {o : Oper} {a : Act} {Q : Exit → Act → World → Prop} (hg : o.guard = none) (m x v : Operand) (t : TypeId) (hop : o.op = Op.insert t m x v)
    (kt et : TypeId) (ht : P.underlying t = some (.map kt et)) (hk : P.underlying kt = some (.int .i64)) (l : List (Int × Value)) (k : Int) (val : Value) (hm : a.eval m = .map (some w.heap.size)) (hx : a.eval x = .int .i64 k) (hv : a.eval v = val) (hnew : look k l = none)
    (hK : wpList P ops Q rest (a.put o.dst undef) (w.alloc (tblObj (l ++ [(k, val)])))) :
    wpList P ops Q (o :: rest) a (w.alloc (tblObj l)) := by
  refine wpList_plain hg fun K' hK' => ?_
  have hrun := run_insert (w := w) ht hk l k val hnew
  unfold Oper.wp
  simp [execOp, hop, hm, hx, hv, hrun, Result.andThen]
  exact hK' _ _ hK
theorem tbl_nil (w : World) : w.alloc (.map #[] 0) = w.alloc (tblObj []) := rfl
theorem tbl_at (w : World) (l : List (Int × Value)) : (w.alloc (tblObj l)).heap[w.heap.size]? = some (tblObj l) := (heap_alloc w _).1
theorem tbl_ext {w w' : World} (h : Ext w w') {r : Nat} {l : List (Int × Value)} (hb : w.heap[r]? = some (tblObj l)) : w'.heap[r]? = some (tblObj l) := by
  have h' : Below w.heap.size w w' := h
  rw [h'.block r ((Array.getElem?_eq_some_iff.1 hb).1)]; exact hb
end Go.Proofs.YthjnchjfmbblfaaGreatDoor

/- What the operations of layer 15 compute. -/
namespace Go.Proofs.YthjnchjfmbblfaaGreatDoor
open Go.RowKit
def fl (p : Bool) : Int := if p then 1 else 0
theorem fl_bd (p : Bool) : 0 ≤ fl p ∧ fl p ≤ 1 := by cases p <;> decide
def hs (a b : Int) : Int := bits .xor .u32 (bits .xor .u32 a (b * 2654435761 % 4294967296) * 2246822519 % 4294967296) (bits .xor .u32 a (b * 2654435761 % 4294967296) * 2246822519 % 4294967296 / 65536)
def apV (op a b : Int) : Int :=
  if op = 8 then (a + b) % 4294967296 else
  if op = 9 then (a - b) % 4294967296 else
  if op = 10 then a * b % 4294967296 else
  if op = 11 then a / b else
  if op = 12 then a % b else
  if op = 13 then bits .and .u32 a b else
  if op = 14 then bits .or .u32 a b else
  if op = 15 then bits .xor .u32 a b else
  if op = 16 then a * 2 ^ (b % 32).toNat % 4294967296 else
  if op = 17 then a / 2 ^ (b % 32).toNat else
  if op = 18 then min a b else
  if op = 19 then max a b else
  if op = 20 then hs a b else
  if op = 21 then fl (a == b) else
  if op = 22 then fl (decide (a < b)) else
  if op = 23 then fl (a == 0) else
  if op = 24 then fl (a != 0 && b != 0) else
  if op = 25 then fl (a != 0 || b != 0) else
  if op = 26 then fl (a != 0) else
  0
theorem apV_8 (a b : Int) : apV 8 a b = (a + b) % 4294967296 := by unfold apV; (repeat rw [if_neg (by decide)]); rw [if_pos rfl]
theorem apV_9 (a b : Int) : apV 9 a b = (a - b) % 4294967296 := by unfold apV; (repeat rw [if_neg (by decide)]); rw [if_pos rfl]
theorem apV_10 (a b : Int) : apV 10 a b = a * b % 4294967296 := by unfold apV; (repeat rw [if_neg (by decide)]); rw [if_pos rfl]
theorem apV_11 (a b : Int) : apV 11 a b = a / b := by unfold apV; (repeat rw [if_neg (by decide)]); rw [if_pos rfl]
theorem apV_12 (a b : Int) : apV 12 a b = a % b := by unfold apV; (repeat rw [if_neg (by decide)]); rw [if_pos rfl]
theorem apV_13 (a b : Int) : apV 13 a b = bits .and .u32 a b := by unfold apV; (repeat rw [if_neg (by decide)]); rw [if_pos rfl]
theorem apV_14 (a b : Int) : apV 14 a b = bits .or .u32 a b := by unfold apV; (repeat rw [if_neg (by decide)]); rw [if_pos rfl]
theorem apV_15 (a b : Int) : apV 15 a b = bits .xor .u32 a b := by unfold apV; (repeat rw [if_neg (by decide)]); rw [if_pos rfl]
theorem apV_16 (a b : Int) : apV 16 a b = a * 2 ^ (b % 32).toNat % 4294967296 := by unfold apV; (repeat rw [if_neg (by decide)]); rw [if_pos rfl]
theorem apV_17 (a b : Int) : apV 17 a b = a / 2 ^ (b % 32).toNat := by unfold apV; (repeat rw [if_neg (by decide)]); rw [if_pos rfl]
theorem apV_18 (a b : Int) : apV 18 a b = min a b := by unfold apV; (repeat rw [if_neg (by decide)]); rw [if_pos rfl]
theorem apV_19 (a b : Int) : apV 19 a b = max a b := by unfold apV; (repeat rw [if_neg (by decide)]); rw [if_pos rfl]
theorem apV_20 (a b : Int) : apV 20 a b = hs a b := by unfold apV; (repeat rw [if_neg (by decide)]); rw [if_pos rfl]
theorem apV_21 (a b : Int) : apV 21 a b = fl (a == b) := by unfold apV; (repeat rw [if_neg (by decide)]); rw [if_pos rfl]
theorem apV_22 (a b : Int) : apV 22 a b = fl (decide (a < b)) := by unfold apV; (repeat rw [if_neg (by decide)]); rw [if_pos rfl]
theorem apV_23 (a b : Int) : apV 23 a b = fl (a == 0) := by unfold apV; (repeat rw [if_neg (by decide)]); rw [if_pos rfl]
theorem apV_24 (a b : Int) : apV 24 a b = fl (a != 0 && b != 0) := by unfold apV; (repeat rw [if_neg (by decide)]); rw [if_pos rfl]
theorem apV_25 (a b : Int) : apV 25 a b = fl (a != 0 || b != 0) := by unfold apV; (repeat rw [if_neg (by decide)]); rw [if_pos rfl]
theorem apV_26 (a b : Int) : apV 26 a b = fl (a != 0) := by unfold apV; (repeat rw [if_neg (by decide)]); rw [if_pos rfl]
/-- Apply: the result and the error. -/
def apF (op a b : Int) : Int × Int := if op < 8 ∨ 26 < op then (0, 1) else if b = 0 ∧ (op = 11 ∨ op = 12) then (0, 17) else (apV op a b, 0)
theorem apF_out {op a b : Int} (h : op < 8 ∨ 26 < op) : apF op a b = (0, 1) := by unfold apF; exact if_pos h
theorem apF_div {op a b : Int} (hb : b = 0) (h : op = 11 ∨ op = 12) : apF op a b = (0, 17) := by unfold apF; rw [if_neg (by omega), if_pos ⟨hb, h⟩]
theorem apF_in {op a b : Int} (h0 : 8 ≤ op) (h1 : op ≤ 26) (h : b ≠ 0 ∨ (op ≠ 11 ∧ op ≠ 12)) : apF op a b = (apV op a b, 0) := by unfold apF; rw [if_neg (by omega), if_neg (by omega)]
end Go.Proofs.YthjnchjfmbblfaaGreatDoor
