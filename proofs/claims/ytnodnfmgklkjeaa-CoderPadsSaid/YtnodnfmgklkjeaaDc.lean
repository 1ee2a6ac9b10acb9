/- The law CoderOrders: the plain flips. -/
import Derived.Test.YtnodnfmgklkjeaaDb
import Derived.Test.YtnodnfmgklkjeaaMb
import Derived.Laws.OwnMore
namespace Go.Proofs.Ytnodnfmgklkjeaa
open Go.RowKit
set_option linter.unusedVariables false

/-- The steps, the bits turned that are marked. -/
def flipL : List (Bool × Int) → List Bool → List (Bool × Int)
  | x :: l, f :: fl => (if f then (!x.1, x.2) else x) :: flipL l fl
  | l, _ => l
theorem flipL_nil (l : List (Bool × Int)) : flipL l [] = l := by cases l <;> rfl
theorem flipL_len (l : List (Bool × Int)) (fl : List Bool) : (flipL l fl).length = l.length := by
  induction l generalizing fl with
  | nil => cases fl <;> rfl
  | cons x l ih => cases fl with
    | nil => rfl
    | cons f fl => simp [flipL, ih]
theorem flipL_succ (l : List (Bool × Int)) (fl : List Bool) (k : Nat) (hk : k < l.length) (hf : k < fl.length) :
    flipL l (fl.take (k + 1)) = if fl.getD k false then (flipL l (fl.take k)).set k (!(l.getD k (false, 0)).1, (l.getD k (false, 0)).2) else flipL l (fl.take k) := by
  induction l generalizing fl k with
  | nil => simp at hk
  | cons x l ih =>
    cases fl with
    | nil => simp at hf
    | cons f fl =>
      cases k with
      | zero => cases f <;> simp [flipL, flipL_nil]
      | succ k =>
        have := ih fl k (by simpa using hk) (by simpa using hf)
        simp only [List.take_succ_cons, flipL, List.getD_cons_succ, List.set_cons_succ, this]
        split <;> (split <;> rfl)
theorem flipL_get (l : List (Bool × Int)) (fl : List Bool) (k i : Nat) (hi : k ≤ i) : (flipL l (fl.take k)).getD i (false, 0) = l.getD i (false, 0) := by
  induction l generalizing fl k i with
  | nil => cases fl.take k <;> rfl
  | cons x l ih =>
    cases fl with
    | nil => simp [flipL_nil]
    | cons f fl =>
      cases k with
      | zero => simp [flipL_nil]
      | succ k =>
        cases i with
        | zero => omega
        | succ i =>
          have := ih fl k i (by omega)
          simpa [flipL] using this
/-- The first mark among the first k, or -1. -/
def fstT (fl : List Bool) : Nat → Int
  | 0 => -1
  | k + 1 => if fl.getD k false = true ∧ fstT fl k < 0 then (k : Int) else fstT fl k
theorem fstT_bd (fl : List Bool) (k : Nat) : -1 ≤ fstT fl k ∧ fstT fl k < k := by
  induction k with
  | zero => simp [fstT]
  | succ k ih => simp only [fstT]; split <;> omega
theorem flip_none (l : List (Bool × Int)) (fl : List Bool) (k : Nat) (hk : k ≤ l.length) (hf : k ≤ fl.length) (h : fstT fl k < 0) : flipL l (fl.take k) = l := by
  induction k with
  | zero => simp [flipL_nil]
  | succ k ih =>
    rw [flipL_succ l fl k (by omega) (by omega)]
    simp only [fstT] at h
    cases hb : fl.getD k false
    · rw [if_neg (fun e => by rw [hb] at e; cases e.1)] at h
      simp only [Bool.false_eq_true, if_false]
      exact ih (by omega) (by omega) h
    · rw [hb] at h
      by_cases h0 : fstT fl k < 0
      · rw [if_pos ⟨rfl, h0⟩] at h; omega
      · rw [if_neg (fun e => h0 e.2)] at h; omega
theorem flip_first (l : List (Bool × Int)) (fl : List Bool) (k : Nat) (hk : k ≤ l.length) (hf : k ≤ fl.length) (f : Nat) (h : fstT fl k = f) :
    f < k ∧ (flipL l (fl.take k)).take f = l.take f ∧ (flipL l (fl.take k)).getD f (false, 0) = (!(l.getD f (false, 0)).1, (l.getD f (false, 0)).2) := by
  induction k with
  | zero => simp only [fstT] at h; omega
  | succ k ih =>
    rw [flipL_succ l fl k (by omega) (by omega)]
    have hlen := flipL_len l (fl.take k)
    simp only [fstT] at h
    by_cases h0 : fl.getD k false = true ∧ fstT fl k < 0
    · rw [if_pos h0] at h
      obtain rfl : k = f := by omega
      rw [if_pos h0.1, flip_none l fl k (by omega) (by omega) h0.2]
      refine ⟨by omega, by rw [List.take_set_of_le (Nat.le_refl _)], ?_⟩
      simp [List.getD, show k < l.length by omega]
    · rw [if_neg h0] at h
      obtain ⟨i1, i2, i3⟩ := ih (by omega) (by omega) h
      refine ⟨by omega, ?_⟩
      split
      · rw [List.take_set_of_le (by omega)]
        refine ⟨i2, ?_⟩
        rw [← i3]
        simp [List.getD, show ¬ k = f by omega]
      · exact ⟨i2, i3⟩
theorem sts_set (l : List (Bool × Int)) (k : Nat) (b : Bool) (hk : k < l.length) : sts (l.set k (b, (l.getD k (false, 0)).2)) = (sts l).set (k * 2) (.bool b) := by
  unfold sts
  induction l generalizing k with
  | nil => simp at hk
  | cons x l ih =>
    cases k with
    | zero => simp [stp]
    | succ k =>
      have := ih k (by simpa using hk)
      rw [List.set_cons_succ, List.flatMap_cons, List.flatMap_cons, show (k + 1) * 2 = k * 2 + 2 by omega]
      simp only [List.getD_cons_succ]
      rw [this]
      simp [stp]
theorem flip_u16 {l : List (Bool × Int)} (h : U16 l) (fl : List Bool) : U16 (flipL l fl) := by
  induction l generalizing fl with
  | nil => intro x hx; cases fl <;> simp [flipL] at hx
  | cons y l ih =>
    cases fl with
    | nil => rw [flipL_nil]; exact h
    | cons f fl =>
      have hy := h y (by simp)
      have hl : U16 l := fun x hx => h x (by simp [hx])
      intro x hx
      simp only [flipL, List.mem_cons] at hx
      rcases hx with rfl | hx
      · split <;> exact hy
      · exact ih hl fl x hx
/-- What the law compares. -/
theorem order_says (l : List (Bool × Int)) (fl : List Bool) (k : Nat) (hk : k ≤ l.length) (hf : k ≤ fl.length) (f : Nat) (h : fstT fl k = f) :
    (decide (cmpL (codeOf l) (codeOf (flipL l (fl.take k))) < 0) == (l.getD f (false, 0)).1) = true ∧ decide (codeOf l = codeOf (flipL l (fl.take k))) = false := by
  obtain ⟨h1, h2, h3⟩ := flip_first l fl k hk hf f h
  have hlen := flipL_len l (fl.take k)
  obtain ⟨r, hr⟩ : ∃ r, flipL l (fl.take k) = r := ⟨_, rfl⟩
  rw [hr] at h2 h3 hlen ⊢
  cases hb : (l.getD f (false, 0)).1
  · have ho := orders r l f (by omega) (by omega) h2 (by rw [h3]) (by rw [h3, hb]; rfl) hb
    rw [cmpL_swap] at ho
    have hc : cmpL (codeOf l) (codeOf r) = 1 := by omega
    refine ⟨by rw [hc]; rfl, ?_⟩
    rw [decide_eq_false_iff_not]
    intro e
    rw [e, cmpL_self] at hc
    cases hc
  · have ho := orders l r f (by omega) (by omega) h2.symm (by rw [h3]) hb (by rw [h3, hb]; rfl)
    refine ⟨by rw [ho]; rfl, ?_⟩
    rw [decide_eq_false_iff_not]
    intro e
    rw [e, cmpL_self] at ho
    cases ho
end Go.Proofs.Ytnodnfmgklkjeaa
