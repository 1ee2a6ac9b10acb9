/- Every choice of data rows of [unit; Cauchy] is inverted: computed. -/
import Derived.Test.YtpfelklhejpnnaaHag
namespace Go.Proofs.Ytpfelklhejpnnaa
set_option linter.unusedVariables false
set_option linter.unusedSimpArgs false

/-- The lists of a length that stand in a list in order. -/
def choose : Nat → List Nat → List (List Nat)
  | 0, _ => [[]]
  | _ + 1, [] => []
  | k + 1, x :: xs => (choose k xs).map (x :: ·) ++ choose (k + 1) xs
theorem mem_choose : ∀ {xs l : List Nat}, l.Sublist xs → l ∈ choose l.length xs := by
  intro xs l h
  induction h with
  | slnil => simp [choose]
  | @cons l xs x h ih =>
    cases l with
    | nil => simp [choose]
    | cons y l => exact List.mem_append.2 (Or.inr ih)
  | @cons_cons l xs x h ih => exact List.mem_append.2 (Or.inl (List.mem_map.2 ⟨l, ih, rfl⟩))
def kOf (d r : Nat) (T : List Nat) : List (List Int) := T.map fun i => (matF d r).getD i []
def okB (d r : Nat) (T : List Nat) : Bool :=
  ((List.range d).all fun c => decide (0 ≤ ixF (nzF c) ((redK (wideF (kOf d r T) d) c).drop c))) &&
  (decide ((invF (kOf d r T) d).length = d) && ((invF (kOf d r T) d).all fun l => decide (l.length = d) && l.all fun x => decide (0 ≤ x ∧ x ≤ 255)) &&
  ((List.range d).all fun i => decide (combF ((invF (kOf d r T) d).getD i []) (kOf d r T) d = unitR d i)))
theorem ok_inv {d r : Nat} {T : List Nat} (h : okB d r T = true) : InvOK (kOf d r T) d ∧ ∀ i, i < d → combF ((invF (kOf d r T) d).getD i []) (kOf d r T) d = unitR d i := by
  unfold okB at h
  rw [Bool.and_eq_true, Bool.and_eq_true, Bool.and_eq_true] at h
  obtain ⟨h1, ⟨h2, h3⟩, h4⟩ := h
  refine ⟨⟨fun c hc => ?_, by simpa using h2, fun l hl => ?_, fun l hl x hx => ?_⟩, fun i hi => ?_⟩
  · exact of_decide_eq_true (List.all_eq_true.1 h1 c (List.mem_range.2 hc))
  · have := List.all_eq_true.1 h3 l hl
    rw [Bool.and_eq_true] at this
    exact of_decide_eq_true this.1
  · have := List.all_eq_true.1 h3 l hl
    rw [Bool.and_eq_true] at this
    exact of_decide_eq_true (List.all_eq_true.1 this.2 x hx)
  · exact of_decide_eq_true (List.all_eq_true.1 h4 i (List.mem_range.2 hi))
end Go.Proofs.Ytpfelklhejpnnaa
