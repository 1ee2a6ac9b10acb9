/- A store within a region that draws its order, by the law that holds what it reads (general). -/
import Derived.Test.YtfebgcbkadmgiaaHr
namespace Go.Proofs.Ytfebgcbkadmgiaa
open Go.RowKit
set_option linter.unusedVariables false

/-- An operation without a value that alone may come up: what it leaves is a world that meets S. -/
theorem storeH {P : Program} {md : Region.Mode} {ops : Array Oper} {Q : Exit → Act → World → Prop} {S : World → Prop} (i : Nat) {oi : Oper} {fuel : Nat} {listed : Array Bool} {a : Act} {w w' : World} (hi : ops[i]? = some oi) (hd : oi.dst = none)
    (hr : Region.ready md ops listed = [i]) (hw : Region.wanted oi (yielded ops a.tmps) = true) (hrun : (execOp a.eval oi).run P w = .ok .skip w') (hS : S w')
    (h : wpAnyH P md ops Q S fuel (listed.setIfInBounds i true) a w') : wpAnyH P md ops Q S (fuel + 1) listed a w := by
  refine wpAnyH_all hr (by simp) ?_
  intro j hj
  rw [List.mem_singleton] at hj
  subst hj
  unfold wpOp
  simp only [hi, hw, if_true]
  left
  unfold Oper.wp
  rw [hrun]
  show S w' ∧ wpAnyH P md ops Q S fuel _ (a.put oi.dst undef) w'
  rw [hd]
  exact ⟨hS, h⟩
end Go.Proofs.Ytfebgcbkadmgiaa
