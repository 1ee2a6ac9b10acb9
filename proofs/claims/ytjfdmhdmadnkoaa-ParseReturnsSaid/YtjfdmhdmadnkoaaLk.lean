/- Layer 35: code and Encode of the reference. -/
import Derived.Test.YtjfdmhdmadnkoaaLj
import Derived.Test.YtjfdmhdmadnkoaaBx
namespace Go.Proofs.Ytjfdmhdmadnkoaa
open Go.RowKit
set_option linter.unusedVariables false
attribute [local go_sem ↓] Go.wp_at_zero Go.wp_at_succ

/-- A bit string and no error. -/
def BitP (W : World) (D : List Int) (c : Nat) (x : Ending) (w' : World) : Prop :=
  ∃ a m k, x = .returned (.tuple #[.agg #[.slice a m k, .int .i64 (c : Int)], .int .i64 0]) ∧ Rd8 w' (.slice a m k) D ∧ Fresh W (.slice a m k) ∧ Ext W w'
theorem BitP.of {w : World} {r : Int × List Int × Nat} {x : Ending} {w' : World} (h : BitsPost w r x w') {D : List Int} {c : Nat} (hr : r = (0, D, c)) : BitP w D c x w' := by
  subst hr
  obtain ⟨a, k, h1, h2, h3, h4⟩ := h
  exact ⟨_, _, _, h1, h2, h3, h4⟩
theorem Rd8.set {w : World} {v : Value} {D : List Int} (h : Rd8 w v D) {p : Nat} (hp : v.ownBlock ≠ Option.some p) (i : Nat) (u : Value) : Rd8 (w.setCell ⟨p, i, none⟩ u) v D :=
  Rd.chg h ((Chg.refl [p] w).setCell (p := ⟨p, i, none⟩) (Or.inl (by simp)) u) (fun x hx _ => by simp at hx; subst hx; exact hp)

/-- What lies in memory while a token's code is appended. -/
structure CdS (w W : World) (q : Nat) (v : Value) (D : List Int) (c : Nat) (L Ds B : Int) : Prop where
  bx : Blk W q 91 [v, .int .i64 (c : Int)]
  tk : Blk W (q + 1) 60 [.int .i64 L, .int .i64 Ds, .int .u8 B]
  rs : Blk W (q + 2) 91 [.slice none 0 0, .int .i64 0]
  rd : Rd8 W v D
  wf : WF D c
  ext : Ext w W
  low : w.heap.size ≤ q
theorem CdS.step {w W W' : World} {q : Nat} {v v' : Value} {D D' : List Int} {c c' : Nat} {L Ds B : Int} (h : CdS w W q v D c L Ds B) (hE : Ext W W') (hF : Fresh W v') (hR : Rd8 W' v' D') (hW : WF D' c') :
    CdS w ((W'.setCell ⟨q, 0, none⟩ v').setCell ⟨q, 1, none⟩ (.int .i64 (c' : Int))) q v' D' c' L Ds B := by
  have hq := h.bx.lt
  refine ⟨((h.bx.ext hE).set 0 _).set 1 _, ((h.tk.ext hE).set_other (by omega) _).set_other (by omega) _, ((h.rs.ext hE).set_other (by omega) _).set_other (by omega) _, ?_, hW, ?_, h.low⟩
  · exact (hR.set (hF q hq) _ _).set (hF q hq) _ _
  · exact ((h.ext.trans hE).setCell (p := ⟨q, 0, none⟩) h.low _).setCell (p := ⟨q, 1, none⟩) h.low _
theorem CdS.fresh {w W : World} {v : Value} (h : Ext w W) (hF : Fresh W v) : Fresh w v := fun y hy => hF y (Nat.lt_of_lt_of_le hy h.size)

/-- What code leaves. -/
def CodeP (w : World) (D : List Int) (c : Nat) (x : Ending) (w' : World) : Prop :=
  ∃ a m k, x = .returned (.agg #[.slice a m k, .int .i64 (c : Int)]) ∧ Rd8 w' (.slice a m k) D ∧ Fresh w (.slice a m k) ∧ Ext w w'

end Go.Proofs.Ytjfdmhdmadnkoaa
