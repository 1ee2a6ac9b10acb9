/- A map from integers that a text writes down: filled entry by entry, and looked up. -/
import Derived.Test.YtchkbidekmaaiaaE
import Derived.MapKept
import Derived.OwnWalk
import Derived.Maps.OwnOps
namespace Go.Proofs.Ytchkbidekmaaiaa
open Go.RowKit Go.MapKept
set_option linter.unusedVariables false

/-- The entries of a map that is filled in the list's order. -/
def ents : Nat → List (Int × Value) → List MapEntry
  | _, [] => []
  | n, p :: r => ⟨.int .i64 p.1, p.2, n⟩ :: ents (n + 1) r
def tblObj (l : List (Int × Value)) : Obj := .map (ents 0 l).toArray l.length
def look (k : Int) : List (Int × Value) → Option Value
  | [] => none
  | p :: r => if k = p.1 then some p.2 else look k r
theorem ents_snoc (k : Int) (v : Value) : ∀ (l : List (Int × Value)) (n : Nat), ents n (l ++ [(k, v)]) = ents n l ++ [⟨.int .i64 k, v, n + l.length⟩]
  | [], n => rfl
  | p :: r, n => by
    show _ :: ents (n + 1) (r ++ [(k, v)]) = _
    rw [ents_snoc k v r (n + 1)]
    simp [ents]
    omega
theorem find_ents (k : Int) : ∀ (l : List (Int × Value)) (n i : Nat), (look k l = none → Instr.findNow (.int .i64) (.int .i64 k) (ents n l) i = some none) ∧ (∀ v, look k l = some v → ∃ j, Instr.findNow (.int .i64) (.int .i64 k) (ents n l) i = some (some (j, v)))
  | [], n, i => ⟨fun _ => rfl, fun v h => by cases h⟩
  | p :: r, n, i => by
    have ih := find_ents k r (n + 1) (i + 1)
    by_cases h : k = p.1
    · subst h
      refine ⟨fun e => ?_, fun v e => ⟨i, ?_⟩⟩
      · simp [look] at e
      · simp only [look, if_true, Option.some.injEq] at e
        subst e
        simp [ents, Instr.findNow, Instr.sameNow]
    · have hbe : (k == p.1) = false := by simp [h]
      refine ⟨fun e => ?_, fun v e => ?_⟩
      · simp only [look, h, if_false] at e
        have := ih.1 e
        simp [ents, Instr.findNow, Instr.sameNow, hbe, this]
      · simp only [look, h, if_false] at e
        obtain ⟨j, hj⟩ := ih.2 v e
        exact ⟨j, by simp [ents, Instr.findNow, Instr.sameNow, hbe, hj]⟩
theorem look_none {k : Int} : ∀ {l : List (Int × Value)}, (∀ p ∈ l, p.1 ≠ k) → look k l = none
  | [], _ => rfl
  | p :: r, h => by
    have h1 : ¬ k = p.1 := fun e => h p (by simp) e.symm
    simp only [look, h1, if_false]
    exact look_none (fun q hq => h q (by simp [hq]))

/-- A new entry. -/
theorem run_insert {P : Program} {w : World} {t kt et : TypeId} (ht : P.underlying t = some (.map kt et)) (hk : P.underlying kt = some (.int .i64)) (l : List (Int × Value)) (k : Int) (v : Value) (hnew : look k l = none) :
    (Instr.mapUpdate t (.map (some w.heap.size)) (.int .i64 k) v).run P (w.alloc (tblObj l)) = .ok () (w.alloc (tblObj (l ++ [(k, v)]))) := by
  have hb : (w.alloc (tblObj l)).heap[w.heap.size]? = some (.map (ents 0 l).toArray l.length) := (heap_alloc w _).1
  have hf := (find_ents k l 0 0).1 hnew
  unfold Instr.mapUpdate
  simp only [Sem.run_bind, run_underlying ht, Result.andThen, Go.MapKept.run_getObj_map hb, run_checkKey hk (show IsKey (.int .i64) (.int .i64 k) from rfl), run_findKey hk (l := (ents 0 l)) hf]
  rw [run_setObj_map _ hb]
  congr 1
  have e : (w.alloc (tblObj l)).heap = w.heap.push (tblObj l) := rfl
  rw [e]
  have e2 : w.alloc (tblObj (l ++ [(k, v)])) = { w.alloc (tblObj l) with heap := w.heap.push (tblObj (l ++ [(k, v)])) } := rfl
  rw [e2]
  congr 1
  rw [show tblObj (l ++ [(k, v)]) = .map ((ents 0 l).toArray.push ⟨.int .i64 k, v, l.length⟩) (l.length + 1) by
    unfold tblObj
    rw [ents_snoc]
    simp]
  have e3 : ∀ (h : Array Obj) (x y : Obj), (h.push x).setIfInBounds h.size y = h.push y := by
    intro h x y
    apply Array.ext'
    simp
  exact e3 _ _ _
theorem run_look {P : Program} {w : World} {t kt et : TypeId} (ht : P.underlying t = some (.map kt et)) (hk : P.underlying kt = some (.int .i64)) {r : Nat} (l : List (Int × Value)) (hb : w.heap[r]? = some (tblObj l)) (k : Int) (v : Value) (h : look k l = some v) :
    (Instr.lookup t (.map (some r)) (.int .i64 k) true).run P w = .ok (.tuple #[v, .bool true]) w := by
  have hb' : w.heap[r]? = some (.map (ents 0 l).toArray l.length) := hb
  obtain ⟨j, hf⟩ := (find_ents k l 0 0).2 v h
  unfold Instr.lookup
  simp only [Sem.run_bind, run_underlying ht, Result.andThen, Go.MapKept.run_getObj_map hb', run_checkKey hk (show IsKey (.int .i64) (.int .i64 k) from rfl), Sem.run_pure, run_findKey hk (l := (ents 0 l)) hf]
  rfl
theorem run_look_none {P : Program} {w : World} {t kt et : TypeId} (ht : P.underlying t = some (.map kt et)) (hk : P.underlying kt = some (.int .i64)) {r : Nat} (l : List (Int × Value)) (hb : w.heap[r]? = some (tblObj l)) (k : Int) (z : Value) (hz : (zeroValue et).run P w = .ok z w) (h : look k l = none) :
    (Instr.lookup t (.map (some r)) (.int .i64 k) true).run P w = .ok (.tuple #[z, .bool false]) w := by
  have hb' : w.heap[r]? = some (.map (ents 0 l).toArray l.length) := hb
  have hf := (find_ents k l 0 0).1 h
  unfold Instr.lookup
  simp only [Sem.run_bind, run_underlying ht, Result.andThen, Go.MapKept.run_getObj_map hb', run_checkKey hk (show IsKey (.int .i64) (.int .i64 k) from rfl), Sem.run_pure, run_findKey hk (l := (ents 0 l)) hf, hz]
  rfl
/-- At the operation. -/
theorem wpList_insert_lit {P : Program} {w : World} {ops : Array Oper} {rest : List Oper} {o : Oper} {a : Act} {Q : Exit → Act → World → Prop} (hg : o.guard = none) (m x v : Operand) (t : TypeId) (hop : o.op = Op.insert t m x v)
    (kt et : TypeId) (ht : P.underlying t = some (.map kt et)) (hk : P.underlying kt = some (.int .i64)) (l : List (Int × Value)) (k : Int) (val : Value) (hm : a.eval m = .map (some w.heap.size)) (hx : a.eval x = .int .i64 k) (hv : a.eval v = val) (hnew : look k l = none)
    (hK : wpList P ops Q rest (a.put o.dst undef) (w.alloc (tblObj (l ++ [(k, val)])))) :
    wpList P ops Q (o :: rest) a (w.alloc (tblObj l)) := by
  refine wpList_plain hg fun K' hK' => ?_
  have hrun := run_insert (w := w) ht hk l k val hnew
  unfold Oper.wp
  simp [execOp, hop, hm, hx, hv, hrun, Result.andThen]
  exact hK' _ _ hK
theorem tbl_nil (w : World) : w.alloc (.map #[] 0) = w.alloc (tblObj []) := rfl
theorem tbl_at (w : World) (l : List (Int × Value)) : (w.alloc (tblObj l)).heap[w.heap.size]? = some (tblObj l) := (heap_alloc w _).1
theorem tbl_ext {w w' : World} (h : Ext w w') {r : Nat} {l : List (Int × Value)} (hb : w.heap[r]? = some (tblObj l)) : w'.heap[r]? = some (tblObj l) := by
  have h' : Below w.heap.size w w' := h
  rw [h'.block r ((Array.getElem?_eq_some_iff.1 hb).1)]; exact hb
end Go.Proofs.Ytchkbidekmaaiaa
