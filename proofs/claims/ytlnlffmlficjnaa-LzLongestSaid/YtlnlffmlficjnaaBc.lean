/- The program's push. -/
import Derived.Test.YtlnlffmlficjnaaBb
import Derived.StillTailTactics
import Derived.Deep.CutRange
import Derived.Deep.DeepCutAuto
import Derived.Outline
namespace Go.Proofs.Ytlnlffmlficjnaa
open Go.RowKit
set_option linter.unusedVariables false
attribute [local go_sem ↓] Go.wp_at_zero Go.wp_at_succ

def b2i (x : Bool) : Int := if x then 1 else 0
theorem b2i_01 (x : Bool) : b2i x = 0 ∨ b2i x = 1 := by cases x <;> simp [b2i]

/-- What a tape holds. -/
structure Tape (w : World) (p B : Nat) (v : Value) (D : List Int) (c : Nat) : Prop where
  blk : Blk w p 91 [v, .int .i64 (c : Int)]
  own : Own8 w B v D
  wf : WF D c
theorem Tape.ne {w : World} {p B : Nat} {v : Value} {D : List Int} {c : Nat} (h : Tape w p B v D c) : v.ownBlock ≠ some p := own_ne_blk h.own h.blk (by decide)

/-- A row that grows: it lies where it lay, or in a new block. -/
def Stays (w : World) (v v' : Value) : Prop := ∀ g, v'.ownBlock = some g → v.ownBlock = some g ∨ w.heap.size ≤ g
theorem Stays.refl (w : World) (v : Value) : Stays w v v := fun g h => Or.inl h
theorem Stays.trans {w w1 : World} {v v1 v2 : Value} (h : Stays w v v1) (k : Stays w1 v1 v2) (hs : w.heap.size ≤ w1.heap.size) : Stays w v v2 := fun g hg => by
  rcases k g hg with h1 | h1
  · exact h g h1
  · exact Or.inr (by omega)
theorem Stays.chg {w w1 w2 : World} {p : Nat} {v v1 : Value} (h : Stays w v v1) (k : Chg (p :: v.ownBlock.toList) w w1) (k2 : Chg (p :: v1.ownBlock.toList) w1 w2) : Chg (p :: v.ownBlock.toList) w w2 :=
  k.trans k2 (fun x hx => by
    simp only [List.mem_cons, Option.mem_toList] at hx ⊢
    rcases hx with h1 | h1
    · exact Or.inl (Or.inl h1)
    · rcases h x h1 with h2 | h2
      · exact Or.inl (Or.inr h2)
      · exact Or.inr h2)
def PushPost (p B c : Nat) (v : Value) (D : List Int) (x : Int) (w : World) (e : Ending) (w' : World) : Prop :=
  e = .returned (.tuple #[]) ∧ ∃ v', Tape w' p B v' (psh D c x) (c + 1) ∧ Stays w v v' ∧ Chg (p :: v.ownBlock.toList) w w'

end Go.Proofs.Ytlnlffmlficjnaa
