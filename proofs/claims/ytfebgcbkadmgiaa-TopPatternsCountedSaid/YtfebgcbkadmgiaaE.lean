/- Small general laws on worlds: what a call that only makes new blocks leaves as it was. -/
import Derived.WalkKit
import Derived.WalkSpells
import Derived.WalkLawsBesides
import Derived.IntWalk
import Derived.Handy
namespace Go.Proofs.Ytfebgcbkadmgiaa
open Go.RowKit

theorem hidden {p : Prop} (h : p) : Hid p := h
theorem ret_int {k : IntKind} {a b : Int} (h : a = b) : Ending.returned (.int k a) = .returned (.int k b) := by rw [h]
theorem ret_bool {a b : Bool} (h : a = b) : Ending.returned (.bool a) = .returned (.bool b) := by rw [h]

/-- The world has at most new blocks. -/
def Ext (w w' : World) : Prop := Below w.heap.size w w'
theorem Ext.size {w w' : World} (h : Ext w w') : w.heap.size ≤ w'.heap.size := Below.size h
theorem Ext.refl (w : World) : Ext w w := Below.refl _ _
theorem Ext.of_eq {w w' : World} (h : w = w') : Ext w w' := h ▸ Ext.refl w
theorem Ext.trans {a b c : World} (h : Ext a b) (k : Ext b c) : Ext a c := Below.trans h (Below.mono k (Below.size h))
theorem Ext.drew {a b : World} (h : Ext a b) : Ext a b.drew := Below.drew h
theorem Ext.drewN {a b : World} (n : Nat) (h : Ext a b) : Ext a (b.drewN n) := by
  have h' : Below a.heap.size a b := h
  exact ⟨h'.os, h'.tape, h'.output, h'.size, h'.block⟩
theorem Ext.alloc {a b : World} (h : Ext a b) (o : Obj) : Ext a (b.alloc o) := Below.alloc h (Below.size h) o
theorem Ext.setCell {a b : World} (h : Ext a b) {p : Addr} (hp : a.heap.size ≤ p.block) (v : Value) : Ext a (b.setCell p v) := Below.setCell h hp v
/-- From behind a new block on. -/
theorem Ext.past {a b : World} {o : Obj} (h : Ext (a.alloc o) b) : Ext a b := ((Ext.refl a).alloc o).trans h
theorem Ext.past_drew {a b : World} (h : Ext a.drew b) : Ext a b := (Ext.refl a).drew.trans h
theorem cell_lt {w : World} {b o : Nat} {v : Value} (hc : w.cell? ⟨b, o, none⟩ = some v) : b < w.heap.size := by
  have := hc
  simp only [World.cell?] at this
  by_cases hx : b < w.heap.size
  · exact hx
  · rw [Array.getElem?_eq_none (by omega)] at this; simp at this
theorem Ext.cell {w w' : World} (h : Ext w w') {b o : Nat} {v : Value} (hc : w.cell? ⟨b, o, none⟩ = some v) : w'.cell? ⟨b, o, none⟩ = some v := by
  rw [Below.cell h (p := ⟨b, o, none⟩) (cell_lt hc)]; exact hc
theorem Ext.frozen {w w' : World} (h : Ext w w') {b o : Nat} {v : Value} {t : Bool} (hc : w.cell? ⟨b, o, none⟩ = some v) (hf : w.frozen? ⟨b, o, none⟩ = t) : w'.frozen? ⟨b, o, none⟩ = t := by
  rw [Below.frozen h (p := ⟨b, o, none⟩) (cell_lt hc)]; exact hf
/-- Old cells and marks read as before: rules for the walk. -/
theorem Ext.rules {w w' : World} (h : Ext w w') : (∀ b o, b < w.heap.size → w'.cell? ⟨b, o, none⟩ = w.cell? ⟨b, o, none⟩) ∧ (∀ b o, b < w.heap.size → w'.frozen? ⟨b, o, none⟩ = w.frozen? ⟨b, o, none⟩) :=
  ⟨fun b o hb => Below.cell h (p := ⟨b, o, none⟩) hb, fun b o hb => Below.frozen h (p := ⟨b, o, none⟩) hb⟩
/-- A new block's cell, behind a call that only makes blocks. -/
theorem Ext.box {w w' : World} {c : Array Value} {t : TypeId} (h : Ext (w.alloc (.cells c t)) w') (i : Nat) (v : Value) (hv : c[i]? = some v) :
    w'.cell? ⟨w.heap.size, i, none⟩ = some v ∧ w'.frozen? ⟨w.heap.size, i, none⟩ = false ∧ w.heap.size < w'.heap.size := by
  have hc : (w.alloc (.cells c t)).cell? ⟨w.heap.size, i, none⟩ = some v := by rw [World.cell?_alloc_at _ _ _ _ rfl]; exact hv
  refine ⟨h.cell hc, h.frozen hc (World.frozen?_alloc_at _ _ _ _ rfl), ?_⟩
  have := h.size
  simp at this
  omega
theorem set_same {w : World} {b o : Nat} {v u : Value} (hc : w.cell? ⟨b, o, none⟩ = some v) : (w.setCell ⟨b, o, none⟩ u).cell? ⟨b, o, none⟩ = some u := World.cell?_setCell_same _ _ _ hc
theorem set_other {w : World} {a b : Addr} {u v : Value} (h : a ≠ b) (hc : w.cell? b = some v) : (w.setCell a u).cell? b = some v := by rw [World.cell?_setCell_other _ _ _ _ h]; exact hc
end Go.Proofs.Ytfebgcbkadmgiaa
