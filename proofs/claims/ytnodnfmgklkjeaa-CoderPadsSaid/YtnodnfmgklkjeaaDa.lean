/- The plain law of CoderOrders: the code of the bits with the 1 comes first. -/
import Derived.Test.YtnodnfmgklkjeaaCy
namespace Go.Proofs.Ytnodnfmgklkjeaa
open Go.RowKit
set_option linter.unusedVariables false

/-- Which of two lists of bytes comes first. -/
def cmpL : List Int → List Int → Int
  | [], [] => 0
  | [], _ :: _ => -1
  | _ :: _, [] => 1
  | x :: a, y :: b => if x < y then -1 else if y < x then 1 else cmpL a b
theorem cmpL_self (a : List Int) : cmpL a a = 0 := by
  induction a with
  | nil => rfl
  | cons x a ih => simp [cmpL, ih]
theorem cmpL_swap (a b : List Int) : cmpL b a = - cmpL a b := by
  induction a generalizing b with
  | nil => cases b <;> rfl
  | cons x a ih =>
    cases b with
    | nil => rfl
    | cons y b =>
      simp only [cmpL]
      by_cases h1 : x < y
      · rw [if_pos h1, if_neg (by omega), if_pos h1]; rfl
      · by_cases h2 : y < x
        · rw [if_neg h1, if_pos h2, if_pos h2, if_neg h1]
        · rw [if_neg h1, if_neg h2, if_neg h2, if_neg h1, ih]
theorem D_bd (b : List Int) (h : Bytes b) (m : Nat) : 0 ≤ D b m ∧ D b m < 256 ^ m := by
  induction m with
  | zero => simp [D]
  | succ m ih =>
    have := getD_bd h m
    simp only [D, Int.pow_succ]
    omega
theorem D_nil (m : Nat) : D [] m = 0 := by
  induction m with
  | zero => rfl
  | succ m ih => simp [D, ih]
theorem D_cons (x : Int) (b : List Int) (m : Nat) : D (x :: b) (m + 1) = x * 256 ^ m + D b m := by
  induction m with
  | zero => simp [D]
  | succ m ih =>
    show D (x :: b) (m + 1) * 256 + (x :: b).getD (m + 1) 0 = _
    rw [ih]
    have e : (x :: b).getD (m + 1) 0 = b.getD m 0 := rfl
    rw [e, Int.pow_succ, Int.add_mul, Int.mul_assoc]
    simp only [D]
    omega
theorem cmp_of_D (m : Nat) : ∀ (a b : List Int), Bytes a → Bytes b → D a m < D b m → cmpL a b = -1 := by
  induction m with
  | zero => intro a b _ _ h; simp [D] at h
  | succ m ih =>
    intro a b ha hb h
    match a, b with
    | [], [] => omega
    | [], y :: b => rfl
    | x :: a, [] =>
      have := (D_bd (x :: a) ha (m + 1)).1
      rw [D_nil (m + 1)] at h
      omega
    | x :: a, y :: b =>
      have ha' : Bytes a := fun z hz => ha z (by simp [hz])
      have hb' : Bytes b := fun z hz => hb z (by simp [hz])
      rw [D_cons, D_cons] at h
      have h1 := D_bd a ha' m
      have h2 := D_bd b hb' m
      by_cases hxy : x < y
      · simp [cmpL, hxy]
      · by_cases hyx : y < x
        · exfalso
          obtain ⟨d, hd⟩ : ∃ d, x = y + 1 + d := ⟨x - y - 1, by omega⟩
          have hd0 : 0 ≤ d := by omega
          have hp : 0 ≤ d * 256 ^ m := Int.mul_nonneg hd0 (Int.le_of_lt (Int.pow_pos (by decide)))
          rw [hd, Int.add_mul, Int.add_mul] at h
          omega
        · obtain rfl : x = y := by omega
          have := ih a b ha' hb' (by omega)
          simp [cmpL, this]

theorem Inn_part (b : List Int) (hbb : Bytes b) (wd lo bit p : Int) (out : List Int) (h : Inv wd lo out) (hw : 16777216 ≤ wd) (hp0 : 1 ≤ p) (hp1 : p ≤ 4095) (hbit : bit = 0 ∨ bit = 1)
    (hin : Inn b (enc wd lo out bit p).1 (enc wd lo out bit p).2.1 (enc wd lo out bit p).2.2) :
    (bit = 1 → D b (out.length + 4) < base lo out + wd / 4096 * p) ∧ (bit = 0 → base lo out + wd / 4096 * p ≤ D b (out.length + 4)) := by
  obtain ⟨p1, p2, p3⟩ := part_base wd lo bit p out h hw hp0 hp1 hbit
  obtain ⟨q1, q2⟩ := sh_run b hbb 3 _ _ _ p3 hin
  unfold Inn at q1
  rw [p1, p2] at q1
  refine ⟨fun e => ?_, fun e => ?_⟩
  · subst e
    rw [if_pos rfl] at q1
    have : encWd wd p 1 = wd / 4096 * p := by unfold encWd; rw [if_pos rfl]
    omega
  · subst e
    rw [if_neg (show ¬ (0 : Int) = 1 by decide)] at q1
    exact q1.1
theorem code_side (l : List (Bool × Int)) (k : Nat) (hk : k < l.length) (x : Bool × Int) (hx : l.getD k (false, 0) = x) :
    (x.1 = true → D (codeOf l) ((stAt l k).2.2.length + 4) < base (stAt l k).2.1 (stAt l k).2.2 + (stAt l k).1 / 4096 * pOf x) ∧
    (x.1 = false → base (stAt l k).2.1 (stAt l k).2.2 + (stAt l k).1 / 4096 * pOf x ≤ D (codeOf l) ((stAt l k).2.2.length + 4)) := by
  have hin := code_in l (k + 1)
  rw [stAt_succ l k hk, hx] at hin
  have hi := stAt_inv l k
  have hp := (step_ok x).2
  obtain ⟨h1, h2⟩ := Inn_part (codeOf l) (codeOf_bytes l) _ _ _ _ _ hi.1 hi.2 hp.1 hp.2 (step_ok x).1 hin
  exact ⟨fun e => h1 (by show bitOf x = 1; unfold bitOf; rw [e]; rfl), fun e => h2 (by show bitOf x = 0; unfold bitOf; rw [e]; rfl)⟩
/-- Two lists of steps that part at k. -/
theorem orders (l r : List (Bool × Int)) (k : Nat) (hl : k < l.length) (hr : k < r.length) (ht : l.take k = r.take k)
    (hp : (l.getD k (false, 0)).2 = (r.getD k (false, 0)).2) (h1 : (l.getD k (false, 0)).1 = true) (h0 : (r.getD k (false, 0)).1 = false) : cmpL (codeOf l) (codeOf r) = -1 := by
  have hs : stAt r k = stAt l k := by unfold stAt; rw [ht]
  have a := (code_side l k hl _ rfl).1 h1
  have b := (code_side r k hr _ rfl).2 h0
  rw [hs] at b
  have e : pOf (l.getD k (false, 0)) = pOf (r.getD k (false, 0)) := by unfold pOf; rw [hp]
  rw [e] at a
  exact cmp_of_D _ _ _ (codeOf_bytes l) (codeOf_bytes r) (Int.lt_of_lt_of_le a b)
end Go.Proofs.Ytnodnfmgklkjeaa
