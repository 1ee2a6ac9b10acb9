/- Layer 18: the plain law of nesting: the machine with a stack finds the same partners and the same error. -/
import Derived.Test.YtcnbljohhajkhaaWa
namespace Go.Proofs.Ytcnbljohhajkhaa
set_option linter.unusedVariables false
set_option linter.unusedSimpArgs false

/-- The blocks that are open, the innermost first: where each begins, and its else or -1. -/
abbrev Stk := List (Nat × Int)
def inLoop (C : List (Int × Int)) : Stk → Bool
  | [] => false
  | (a, _) :: st => opAt C a == 29 || inLoop C st
def stepM (C : List (Int × Int)) (i : Nat) (st : Stk) (out : List Int) : Option (Stk × List Int) :=
  if opAt C i = 27 ∨ opAt C i = 29 then if st.length = 8 then none else some ((i, -1) :: st, out)
  else if opAt C i = 28 then
    match st with
    | [] => none
    | (a, y) :: s => if opAt C a ≠ 27 ∨ 0 ≤ y then none else some ((a, (i : Int)) :: s, out.set a i)
  else if opAt C i = 30 then if inLoop C st then some (st, out) else none
  else if opAt C i = 31 then
    match st with
    | [] => none
    | (a, y) :: s => some (s, (out.set i a).set (if 0 ≤ y then y.toNat else a) i)
  else some (st, out)
def runM (C : List (Int × Int)) : Nat → Nat → Stk → List Int → Except Nat (List Int)
  | 0, i, st, out => if st = [] then .ok out else .error i
  | m + 1, i, st, out => match stepM C i st (out.set i (-1)) with
    | none => .error i
    | some (st', out') => runM C m (i + 1) st' out'

theorem runM_succ (C : List (Int × Int)) (m i : Nat) (st : Stk) (out : List Int) : runM C (m + 1) i st out = match stepM C i st (out.set i (-1)) with
    | none => .error i
    | some (st', out') => runM C m (i + 1) st' out' := rfl
/-- Code that is nested is gone through. -/
theorem runM_sy (C : List (Int × Int)) (S : Sy) : ∀ (m i : Nat) (st : Stk) (A X B : List Int) (pre rest : List (Int × Int)), C = pre ++ (S.cod ++ rest) → pre.length = i → S.wf (inLoop C st) → st.length + S.dep ≤ 8 → A.length = i → X.length = S.len →
    runM C (m + S.len) i st (A ++ (X ++ B)) = runM C m (i + S.len) st (A ++ (S.prt false i (-1) ++ B)) := by
  induction S with
  | nil =>
    intro m i st A X B pre rest hC hp hw hd hA hX
    obtain rfl : X = [] := List.length_eq_zero_iff.1 (by simpa [Sy.len] using hX)
    rfl
  | op x r ih =>
    intro m i st A X B pre rest hC hp hw hd hA hX
    obtain ⟨w1, w2, w3, w4, w5, w6⟩ := hw
    obtain ⟨h1, h2⟩ := op_at (C := C) (x := x) (A := pre) (B := r.cod ++ rest) (by rw [hC]; rfl) hp
    obtain ⟨x0, X, rfl⟩ : ∃ x0 X', X = x0 :: X' := by cases X with | nil => simp [Sy.len] at hX | cons a l => exact ⟨a, l, rfl⟩
    rw [show m + (Sy.op x r).len = (m + r.len) + 1 by simp [Sy.len]; omega]
    rw [runM_succ]
    rw [show A ++ (x0 :: X ++ B) = A ++ x0 :: (X ++ B) by simp, set_at A x0 _ _ i hA]
    have hst : stepM C i st (A ++ -1 :: (X ++ B)) = some (st, A ++ -1 :: (X ++ B)) := by
      unfold stepM
      rw [h1, if_neg (by omega), if_neg (by omega)]
      by_cases h30 : x.1 = 30
      · rw [if_pos h30, if_pos (w5 h30)]
      · rw [if_neg h30, if_neg (by omega)]
    rw [hst]
    simp only
    have := ih m (i + 1) st (A ++ [-1]) X B (pre ++ [x]) rest (by rw [hC]; simp [Sy.cod]) (by simp; omega) w6 hd (by simp; omega) (by simpa [Sy.len] using hX)
    rw [show A ++ -1 :: (X ++ B) = (A ++ [-1]) ++ (X ++ B) by simp, this]
    simp only [Sy.len, Sy.prt]
    rw [show i + 1 + r.len = i + (r.len + 1) by omega]
    simp
  | blk x b z r ih1 ih2 =>
    intro m i st A X B pre rest hC hp hw hd hA hX
    obtain ⟨w1, w2, w3, w4⟩ := hw
    simp only [Sy.dep] at hd
    have e0 : C = pre ++ x :: (b.cod ++ z :: (r.cod ++ rest)) := by rw [hC]; simp [Sy.cod]
    have e1 : C = (pre ++ [x]) ++ (b.cod ++ z :: (r.cod ++ rest)) := by rw [e0]; simp
    have e2 : C = (pre ++ x :: b.cod) ++ z :: (r.cod ++ rest) := by rw [e0]; simp
    have e3 : C = (pre ++ x :: (b.cod ++ [z])) ++ (r.cod ++ rest) := by rw [e0]; simp
    obtain ⟨h1, h2⟩ := op_at e0 hp
    obtain ⟨k1, k2⟩ := op_at e2 (i := i + 1 + b.len) (by simp [Sy.len_cod]; omega)
    obtain ⟨x0, X1, x1, X2, rfl, hX1, hX2⟩ : ∃ x0 X1 x1 X2, X = x0 :: (X1 ++ x1 :: X2) ∧ X1.length = b.len ∧ X2.length = r.len := by
      cases X with
      | nil => simp [Sy.len] at hX
      | cons a l =>
        have hl : l.length = b.len + r.len + 1 := by simp [Sy.len] at hX; omega
        have : (l.drop b.len).length = r.len + 1 := by simp; omega
        cases hc : l.drop b.len with
        | nil => rw [hc] at this; simp at this
        | cons y t => exact ⟨a, l.take b.len, y, t, by rw [← hc, List.take_append_drop], by simp; omega, by rw [hc] at this; simpa using this⟩
    have hb := ih1 ((m + r.len) + 1) (i + 1) ((i, -1) :: st) (A ++ [-1]) X1 (x1 :: X2 ++ B) (pre ++ [x]) _ e1 (by simp; omega) (by simp only [inLoop]; rw [h1, Bool.or_comm]; exact w3) (by simp; omega) (by simp; omega) hX1
    have hr := ih2 m (i + b.len + 2) st (A ++ (((i + b.len + 1 : Nat) : Int) :: (b.prt false (i + 1) (-1) ++ [(i : Int)]))) X2 B (pre ++ x :: (b.cod ++ [z])) rest e3 (by simp [Sy.len_cod]; omega) w4 (by omega) (by simp [Sy.len_prt]; omega) hX2
    rw [show m + (Sy.blk x b z r).len = ((m + r.len) + 1 + b.len) + 1 by simp [Sy.len]; omega]
    rw [runM_succ]
    rw [show A ++ (x0 :: (X1 ++ x1 :: X2) ++ B) = A ++ x0 :: (X1 ++ (x1 :: X2 ++ B)) by simp, set_at A x0 _ _ i hA]
    have hst : ∀ o, stepM C i st o = some ((i, -1) :: st, o) := fun o => by
      unfold stepM
      rw [h1, if_pos (by omega), if_neg (by omega)]
    rw [hst]
    simp only
    rw [show A ++ -1 :: (X1 ++ (x1 :: X2 ++ B)) = (A ++ [-1]) ++ (X1 ++ (x1 :: X2 ++ B)) by simp, hb]
    rw [runM_succ]
    rw [show A ++ [-1] ++ (b.prt false (i + 1) (-1) ++ (x1 :: X2 ++ B)) = (A ++ -1 :: b.prt false (i + 1) (-1)) ++ x1 :: (X2 ++ B) by simp]
    rw [set_at _ x1 _ _ (i + 1 + b.len) (by simp [Sy.len_prt]; omega)]
    have hst2 : stepM C (i + 1 + b.len) ((i, -1) :: st) ((A ++ -1 :: b.prt false (i + 1) (-1)) ++ -1 :: (X2 ++ B)) = some (st, (A ++ (((i + b.len + 1 : Nat) : Int) :: (b.prt false (i + 1) (-1) ++ [(i : Int)]))) ++ (X2 ++ B)) := by
      unfold stepM
      rw [k1, w2, if_neg (by omega), if_neg (by omega), if_neg (by omega), if_pos rfl]
      simp only
      rw [if_neg (by omega), set_at _ _ _ _ (i + 1 + b.len) (by simp [Sy.len_prt]; omega), List.append_assoc, List.cons_append, set_at A _ _ _ i hA]
      simp [show i + 1 + b.len = i + b.len + 1 by omega]
    rw [hst2]
    simp only
    rw [show i + 1 + b.len + 1 = i + b.len + 2 by omega, hr]
    simp only [Sy.len, Sy.prt]
    rw [show i + b.len + 2 + r.len = i + (b.len + r.len + 2) by omega]
    simp
  | ife x b y c z r ih1 ih2 ih3 =>
    intro m i st A X B pre rest hC hp hw hd hA hX
    obtain ⟨w1, w2, w3, w4, w5, w6⟩ := hw
    simp only [Sy.dep] at hd
    have e0 : C = pre ++ x :: (b.cod ++ y :: (c.cod ++ z :: (r.cod ++ rest))) := by rw [hC]; simp [Sy.cod]
    have e1 : C = (pre ++ [x]) ++ (b.cod ++ y :: (c.cod ++ z :: (r.cod ++ rest))) := by rw [e0]; simp
    have e2 : C = (pre ++ x :: b.cod) ++ y :: (c.cod ++ z :: (r.cod ++ rest)) := by rw [e0]; simp
    have e3 : C = (pre ++ x :: (b.cod ++ [y])) ++ (c.cod ++ z :: (r.cod ++ rest)) := by rw [e0]; simp
    have e4 : C = (pre ++ x :: (b.cod ++ y :: c.cod)) ++ z :: (r.cod ++ rest) := by rw [e0]; simp
    have e5 : C = (pre ++ x :: (b.cod ++ y :: (c.cod ++ [z]))) ++ (r.cod ++ rest) := by rw [e0]; simp
    obtain ⟨h1, h2⟩ := op_at e0 hp
    obtain ⟨k1, k2⟩ := op_at e2 (i := i + 1 + b.len) (by simp [Sy.len_cod]; omega)
    obtain ⟨m1, m2⟩ := op_at e4 (i := i + 1 + b.len + 1 + c.len) (by simp [Sy.len_cod]; omega)
    obtain ⟨x0, X1, x1, X2, x2, X3, rfl, hX1, hX2, hX3⟩ : ∃ x0 X1 x1 X2 x2 X3, X = x0 :: (X1 ++ x1 :: (X2 ++ x2 :: X3)) ∧ X1.length = b.len ∧ X2.length = c.len ∧ X3.length = r.len := by
      cases X with
      | nil => simp [Sy.len] at hX
      | cons a l =>
        have hl : l.length = b.len + c.len + r.len + 2 := by simp [Sy.len] at hX; omega
        have h2 : (l.drop b.len).length = c.len + r.len + 2 := by simp; omega
        cases hc : l.drop b.len with
        | nil => rw [hc] at h2; simp at h2
        | cons y t =>
          rw [hc] at h2
          simp at h2
          have h3 : (t.drop c.len).length = r.len + 1 := by simp; omega
          cases hc2 : t.drop c.len with
          | nil => rw [hc2] at h3; simp at h3
          | cons y2 t2 => exact ⟨a, l.take b.len, y, t.take c.len, y2, t2, by rw [← hc2, List.take_append_drop, ← hc, List.take_append_drop], by simp; omega, by simp; omega, by rw [hc2] at h3; simpa using h3⟩
    have hb := ih1 ((m + r.len + 1 + c.len) + 1) (i + 1) ((i, -1) :: st) (A ++ [-1]) X1 (x1 :: (X2 ++ x2 :: X3) ++ B) (pre ++ [x]) _ e1 (by simp; omega) (by simp only [inLoop]; rw [h1, w1]; exact w4) (by simp; omega) (by simp; omega) hX1
    have hc := ih2 ((m + r.len) + 1) (i + b.len + 2) ((i, ((i + 1 + b.len : Nat) : Int)) :: st) (A ++ (((i + b.len + 1 : Nat) : Int) :: (b.prt false (i + 1) (-1) ++ [-1]))) X2 (x2 :: X3 ++ B) _ _ e3 (by simp [Sy.len_cod]; omega) (by simp only [inLoop]; rw [h1, w1]; exact w5) (by simp; omega) (by simp [Sy.len_prt]; omega) hX2
    have hr := ih3 m (i + b.len + c.len + 3) st (A ++ (((i + b.len + 1 : Nat) : Int) :: (b.prt false (i + 1) (-1) ++ ((i + b.len + c.len + 2 : Nat) : Int) :: (c.prt false (i + b.len + 2) (-1) ++ [(i : Int)])))) X3 B _ rest e5 (by simp [Sy.len_cod]; omega) w6 (by omega) (by simp [Sy.len_prt]; omega) hX3
    rw [show m + (Sy.ife x b y c z r).len = ((m + r.len + 1 + c.len) + 1 + b.len) + 1 by simp [Sy.len]; omega]
    rw [runM_succ]
    rw [show A ++ (x0 :: (X1 ++ x1 :: (X2 ++ x2 :: X3)) ++ B) = A ++ x0 :: (X1 ++ (x1 :: (X2 ++ x2 :: X3) ++ B)) by simp, set_at A x0 _ _ i hA]
    have hst : ∀ o, stepM C i st o = some ((i, -1) :: st, o) := fun o => by
      unfold stepM
      rw [h1, if_pos (by omega), if_neg (by omega)]
    rw [hst]
    simp only
    rw [show A ++ -1 :: (X1 ++ (x1 :: (X2 ++ x2 :: X3) ++ B)) = (A ++ [-1]) ++ (X1 ++ (x1 :: (X2 ++ x2 :: X3) ++ B)) by simp, hb]
    rw [runM_succ]
    rw [show A ++ [-1] ++ (b.prt false (i + 1) (-1) ++ (x1 :: (X2 ++ x2 :: X3) ++ B)) = (A ++ -1 :: b.prt false (i + 1) (-1)) ++ x1 :: (X2 ++ x2 :: X3 ++ B) by simp]
    rw [set_at _ x1 _ _ (i + 1 + b.len) (by simp [Sy.len_prt]; omega)]
    have hst2 : stepM C (i + 1 + b.len) ((i, -1) :: st) ((A ++ -1 :: b.prt false (i + 1) (-1)) ++ -1 :: (X2 ++ x2 :: X3 ++ B)) = some ((i, ((i + 1 + b.len : Nat) : Int)) :: st, (A ++ (((i + b.len + 1 : Nat) : Int) :: (b.prt false (i + 1) (-1) ++ [-1]))) ++ (X2 ++ (x2 :: X3 ++ B))) := by
      unfold stepM
      rw [k1, w2, if_neg (by omega), if_pos rfl]
      simp only
      rw [h1, if_neg (by omega), List.append_assoc, List.cons_append, set_at A _ _ _ i hA]
      simp [show i + 1 + b.len = i + b.len + 1 by omega]
    rw [hst2]
    simp only
    rw [show i + 1 + b.len + 1 = i + b.len + 2 by omega, show m + r.len + 1 + c.len = (m + r.len) + 1 + c.len by omega, hc]
    rw [runM_succ]
    rw [show (A ++ (((i + b.len + 1 : Nat) : Int) :: (b.prt false (i + 1) (-1) ++ [-1]))) ++ (c.prt false (i + b.len + 2) (-1) ++ (x2 :: X3 ++ B)) = (A ++ ((i + b.len + 1 : Nat) : Int) :: (b.prt false (i + 1) (-1) ++ -1 :: c.prt false (i + b.len + 2) (-1))) ++ x2 :: (X3 ++ B) by simp]
    rw [set_at _ x2 _ _ (i + b.len + 2 + c.len) (by simp [Sy.len_prt]; omega)]
    have hst3 : stepM C (i + b.len + 2 + c.len) ((i, ((i + 1 + b.len : Nat) : Int)) :: st) ((A ++ ((i + b.len + 1 : Nat) : Int) :: (b.prt false (i + 1) (-1) ++ -1 :: c.prt false (i + b.len + 2) (-1))) ++ -1 :: (X3 ++ B)) = some (st, (A ++ (((i + b.len + 1 : Nat) : Int) :: (b.prt false (i + 1) (-1) ++ ((i + b.len + c.len + 2 : Nat) : Int) :: (c.prt false (i + b.len + 2) (-1) ++ [(i : Int)])))) ++ (X3 ++ B)) := by
      unfold stepM
      rw [show i + b.len + 2 + c.len = i + 1 + b.len + 1 + c.len by omega, m1, w3, if_neg (by omega), if_neg (by omega), if_neg (by omega), if_pos rfl]
      simp only
      rw [if_pos (by omega), set_at _ _ _ _ (i + 1 + b.len + 1 + c.len) (by simp [Sy.len_prt]; omega)]
      rw [show (A ++ ((i + b.len + 1 : Nat) : Int) :: (b.prt false (i + 1) (-1) ++ -1 :: c.prt false (i + b.len + 2) (-1))) ++ (i : Int) :: (X3 ++ B) = (A ++ ((i + b.len + 1 : Nat) : Int) :: b.prt false (i + 1) (-1)) ++ -1 :: (c.prt false (i + b.len + 2) (-1) ++ (i : Int) :: (X3 ++ B)) by simp]
      rw [set_at _ _ _ _ _ (by simp [Sy.len_prt]; omega)]
      simp [show i + 1 + b.len + 1 + c.len = i + b.len + c.len + 2 by omega]
    rw [hst3]
    simp only
    rw [show i + b.len + 2 + c.len + 1 = i + b.len + c.len + 3 by omega, hr]
    simp only [Sy.len, Sy.prt]
    rw [show i + b.len + c.len + 3 + r.len = i + (b.len + c.len + r.len + 3) by omega]
    simp
end Go.Proofs.Ytcnbljohhajkhaa
