/- A byte is appended to an own row of bytes (general). -/
import Derived.Test.YtjfdmhdmadnkoaaBa
import Derived.Deep.AppendLies
namespace Go.Proofs.Ytjfdmhdmadnkoaa
open Go.RowKit
set_option linter.unusedVariables false

theorem wpList_append1 {ops : Array Oper} {rest : List Oper} {o : Oper} {a : Act} {Q : Exit → Act → World → Prop} {w : World} (hgd : o.guard = none) (s x : Operand)
    (ho : o.op = .call { callee := .builtin .append, args := #[s, x], argTypes := #[22, 22] })
    (B : Nat) (v : Value) (D : List Int) (y : Int) (q : Nat) (hO : Own8 w B v D) (hs : a.eval s = v) (hx : a.eval x = .slice (some ⟨q, 0, none⟩) 1 1)
    (hq : w.cell? ⟨q, 0, none⟩ = some (.int .u8 y)) (hl : D.length ≤ 900000) (hB : B ≤ w.heap.size)
    (h : ∀ g cap w', Own8 w' B (.slice (some ⟨g, 0, none⟩) (D.length + 1) cap) (D ++ [y]) → w.grownBy w' v.ownBlock → (v.ownBlock = some g ∨ g = w.heap.size) → g < w'.heap.size →
      wpList Try.prog ops Q rest (a.put o.dst (.slice (some ⟨g, 0, none⟩) (D.length + 1) cap)) w') : wpList Try.prog ops Q (o :: rest) a w := by
  obtain ⟨i0, hi, hz0, hz1, hz2⟩ := info_parts u8info
  refine wpList_append_lies w hgd s x 22 ho B 5 i0 (.int .u8 0) 1 1 Try.underlying22 hi hz0 hz1 hz2 rfl (by decide) v D.length (bs D) hs hO ⟨q, 0, none⟩ 1 1 [.int .u8 y] hx rfl ?_ (by simp [Value.oneCell']) (by omega) (by unfold maxLen; omega) (by omega) hB w.heap.size rfl ?_
  · intro j u hu
    match j, hu with
    | 0, hu =>
      simp only [List.getElem?_cons_zero, Option.some.injEq] at hu
      subst hu
      exact hq
    | j + 1, hu => simp at hu
  · intro g cap w' h1 h2 h3 h4
    refine h g cap w' ?_ h2 h3 h4
    unfold Own8
    rw [bs_app, List.length_append, List.length_singleton]
    exact h1
end Go.Proofs.Ytjfdmhdmadnkoaa
