
import Derived.Test.YtgjjklajipekdaaGreatWc
namespace Go.Proofs.YtgjjklajipekdaaGreat
set_option linter.unusedVariables false
set_option linter.unusedSimpArgs false
def lvR (C : List (Int × Int)) : Nat → Nat → List Nat → List Int → Option (List Int)
 | 0, _, _, P => some P
 | m + 1, i, ls, P =>
  if opAtFl C i = 29 then lvR C m (i + 1) (i :: ls) P
  else if opAtFl C i = 31 then
   if 0 ≤ P.getD i 0 ∧ P.getD i 0 < C.length then
    if opAtFl C (P.getD i 0).toNat = 29 then
     match ls with
     | [] => none
     | _ :: s => lvR C m (i + 1) s P
    else lvR C m (i + 1) ls P
   else none
  else if opAtFl C i = 30 then
   match ls with
   | [] => none
   | a :: s => lvR C m (i + 1) (a :: s) (P.set i (P.getD a 0))
  else lvR C m (i + 1) ls P
theorem lvR_eq (C : List (Int × Int)) (m i : Nat) (ls : List Nat) (P : List Int) : lvR C (m + 1) i ls P =
  if opAtFl C i = 29 then lvR C m (i + 1) (i :: ls) P
  else if opAtFl C i = 31 then
   if 0 ≤ P.getD i 0 ∧ P.getD i 0 < C.length then
    if opAtFl C (P.getD i 0).toNat = 29 then
     match ls with
     | [] => none
     | _ :: s => lvR C m (i + 1) s P
    else lvR C m (i + 1) ls P
   else none
  else if opAtFl C i = 30 then
   match ls with
   | [] => none
   | a :: s => lvR C m (i + 1) (a :: s) (P.set i (P.getD a 0))
  else lvR C m (i + 1) ls P := rfl
theorem getD_in {A : List Int} {a : Nat} (B : List Int) (h : a < A.length) : (A ++ B).getD a 0 = A.getD a 0 := by
 simp [List.getD, List.getElem?_append_left h]
theorem getD_mid {A : List Int} {x : Int} {B : List Int} {a : Nat} (h : A.length = a) : (A ++ x :: B).getD a 0 = x := by
 subst h
 simp [List.getD]
theorem lvR_loop (C : List (Int × Int)) (m i : Nat) (ls : List Nat) (P : List Int) (h1 : opAtFl C i = 29) : lvR C (m + 1) i ls P = lvR C m (i + 1) (i :: ls) P := by
 cases ls <;> simp [lvR, h1]
theorem lvR_leave (C : List (Int × Int)) (m i a : Nat) (s : List Nat) (P : List Int) (h1 : opAtFl C i = 30) : lvR C (m + 1) i (a :: s) P = lvR C m (i + 1) (a :: s) (P.set i (P.getD a 0)) := by
 simp [lvR, h1]
theorem lvR_pop (C : List (Int × Int)) (m i k a : Nat) (s : List Nat) (P : List Int) (h2 : opAtFl C i = 31) (hk : P.getD i 0 = (k : Int)) (hl : k < C.length) (h3 : opAtFl C k = 29) : lvR C (m + 1) i (a :: s) P = lvR C m (i + 1) s P := by
 rw [lvR_eq, hk, Int.toNat_natCast, if_neg (by omega), if_pos h2, if_pos (by omega), if_pos h3]
theorem lvR_op (C : List (Int × Int)) (m i : Nat) (ls : List Nat) (P : List Int) (h1 : opAtFl C i ≠ 29) (h2 : opAtFl C i ≠ 31) (h3 : opAtFl C i ≠ 30) : lvR C (m + 1) i ls P = lvR C m (i + 1) ls P := by
 cases ls <;> simp [lvR, h1, h2, h3]
theorem lvR_end (C : List (Int × Int)) (m i k : Nat) (ls : List Nat) (P : List Int) (h2 : opAtFl C i = 31) (hk : P.getD i 0 = (k : Int)) (hl : k < C.length) (h3 : opAtFl C k ≠ 29) : lvR C (m + 1) i ls P = lvR C m (i + 1) ls P := by
 have h4 : (0 : Int) ≤ (k : Int) ∧ (k : Int) < C.length := by omega
 rw [lvR_eq, hk, Int.toNat_natCast, if_neg (by omega), if_pos h2, if_pos h4, if_neg h3]
theorem lvR_sy (C : List (Int × Int)) (S : Sy) : ∀ (m i : Nat) (ls : List Nat) (lp : Int) (L : Bool) (A B : List Int) (pre rest : List (Int × Int)), C = pre ++ (S.cod ++ rest) → pre.length = i → S.wf L → A.length = i → (L = true → ∃ a s, ls = a :: s ∧ a < i ∧ A.getD a 0 = lp) →
  lvR C (m + S.len) i ls (A ++ (S.prt false i (-1) ++ B)) = lvR C m (i + S.len) ls (A ++ (S.prt true i lp ++ B)) := by
 induction S with
 | nil => intros; rfl
 | op x r ih =>
  intro m i ls lp L A B pre rest hC hp hw hA hL
  obtain ⟨w1, w2, w3, w4, w5, w6⟩ := hw
  obtain ⟨h1, h2⟩ := op_at (C := C) (x := x) (A := pre) (B := r.cod ++ rest) (by rw [hC]; rfl) hp
  rw [show m + (Sy.op x r).len = (m + r.len) + 1 by simp [Sy.len]; omega]
  have go : ∀ z : Int, lvR C (m + r.len) (i + 1) ls (A ++ (z :: r.prt false (i + 1) (-1) ++ B)) = lvR C m (i + (Sy.op x r).len) ls (A ++ (z :: r.prt true (i + 1) lp ++ B)) := fun z => by
   have := ih m (i + 1) ls lp L (A ++ [z]) B (pre ++ [x]) rest (by rw [hC]; simp [Sy.cod]) (by simp; omega) w6 (by simp; omega) (fun h => by obtain ⟨a, s, e, h1, h2⟩ := hL h; exact ⟨a, s, e, by omega, by rw [getD_in _ (by omega)]; exact h2⟩)
   rw [show i + 1 + r.len = i + (Sy.op x r).len by simp [Sy.len]; omega] at this
   simpa using this
  simp only [Sy.prt]
  by_cases h30 : x.1 = 30
  ·obtain ⟨a, s, rfl, h3, h4⟩ := hL (w5 h30)
   rw [if_pos h30, if_pos h30, lvR_leave _ _ _ _ _ _ (by omega)]
   rw [getD_in _ (by omega), h4, List.cons_append, set_at A _ _ _ i hA]
   exact go lp
  ·rw [if_neg h30, if_neg h30, lvR_op _ _ _ _ _ (by omega) (by omega) (by omega)]
   exact go _
 | blk x b z r ih1 ih2 =>
  intro m i ls lp L A B pre rest hC hp hw hA hL
  obtain ⟨w1, w2, w3, w4⟩ := hw
  have e0 : C = pre ++ x :: (b.cod ++ z :: (r.cod ++ rest)) := by rw [hC]; simp [Sy.cod]
  have e1 : C = (pre ++ [x]) ++ (b.cod ++ z :: (r.cod ++ rest)) := by rw [e0]; simp
  have e2 : C = (pre ++ x :: b.cod) ++ z :: (r.cod ++ rest) := by rw [e0]; simp
  have e3 : C = (pre ++ x :: (b.cod ++ [z])) ++ (r.cod ++ rest) := by rw [e0]; simp
  obtain ⟨h1, h2⟩ := op_at e0 hp
  obtain ⟨k1, k2⟩ := op_at e2 (i := i + 1 + b.len) (by simp [Sy.len_cod]; omega)
  rw [show m + (Sy.blk x b z r).len = ((m + r.len) + 1 + b.len) + 1 by simp [Sy.len]; omega]
  simp only [Sy.prt]
  obtain ⟨q, hq⟩ : ∃ q : Int, ((i + b.len + 1 : Nat) : Int) = q := ⟨_, rfl⟩
  rw [hq]
  have hr : ∀ bb : List Int, bb.length = b.len → lvR C (m + r.len) (i + b.len + 2) ls (A ++ (q :: (bb ++ (i : Int) :: r.prt false (i + b.len + 2) (-1)) ++ B)) = lvR C m (i + (Sy.blk x b z r).len) ls (A ++ (q :: (bb ++ (i : Int) :: r.prt true (i + b.len + 2) lp) ++ B)) := fun bb hbb => by
   have := ih2 m (i + b.len + 2) ls lp L (A ++ (q :: (bb ++ [(i : Int)]))) B _ rest e3 (by simp [Sy.len_cod]; omega) w4 (by simp; omega) (fun h => by obtain ⟨a, s, e, h1, h2⟩ := hL h; exact ⟨a, s, e, by omega, by rw [getD_in _ (by omega)]; exact h2⟩)
   rw [show i + b.len + 2 + r.len = i + (Sy.blk x b z r).len by simp [Sy.len]; omega] at this
   simpa using this
  have hi : ∀ (bb cc : List Int), bb.length = b.len → (A ++ (q :: (bb ++ (i : Int) :: cc) ++ B)).getD (i + 1 + b.len) 0 = (i : Int) := fun bb cc hbb => by
   rw [show A ++ (q :: (bb ++ (i : Int) :: cc) ++ B) = (A ++ q :: bb) ++ (i : Int) :: (cc ++ B) by simp]
   exact getD_mid (by simp; omega)
  by_cases h29 : x.1 = 29
  ·have hb := ih1 ((m + r.len) + 1) (i + 1) (i :: ls) q true (A ++ [q]) ((i : Int) :: r.prt false (i + b.len + 2) (-1) ++ B) _ _ e1 (by simp; omega) (by simpa [h29] using w3) (by simp; omega) (fun _ => ⟨i, ls, rfl, by omega, getD_mid hA⟩)
   rw [lvR_loop _ _ _ _ _ (by omega), if_neg (by simp), if_pos ⟨h29, trivial⟩]
   rw [show A ++ (q :: (b.prt false (i + 1) (-1) ++ (i : Int) :: r.prt false (i + b.len + 2) (-1)) ++ B) = A ++ [q] ++ (b.prt false (i + 1) (-1) ++ ((i : Int) :: r.prt false (i + b.len + 2) (-1) ++ B)) by simp, hb]
   rw [show A ++ [q] ++ (b.prt true (i + 1) q ++ ((i : Int) :: r.prt false (i + b.len + 2) (-1) ++ B)) = A ++ (q :: (b.prt true (i + 1) q ++ (i : Int) :: r.prt false (i + b.len + 2) (-1)) ++ B) by simp]
   rw [lvR_pop C _ _ i _ _ _ (by omega) (hi _ _ (Sy.len_prt _ _ _ _)) (by omega) (by omega)]
   rw [show i + 1 + b.len + 1 = i + b.len + 2 by omega]
   exact hr _ (Sy.len_prt _ _ _ _)
  ·have hb := ih1 ((m + r.len) + 1) (i + 1) ls lp L (A ++ [q]) ((i : Int) :: r.prt false (i + b.len + 2) (-1) ++ B) _ _ e1 (by simp; omega) (by rw [show (x.1 == 29) = false by simpa using h29, Bool.or_false] at w3; exact w3) (by simp; omega) (fun h => by obtain ⟨a, s, e, h1, h2⟩ := hL h; exact ⟨a, s, e, by omega, by rw [getD_in _ (by omega)]; exact h2⟩)
   rw [lvR_op _ _ _ _ _ (by omega) (by omega) (by omega), if_neg (by simp), if_neg (by omega)]
   rw [show A ++ (q :: (b.prt false (i + 1) (-1) ++ (i : Int) :: r.prt false (i + b.len + 2) (-1)) ++ B) = A ++ [q] ++ (b.prt false (i + 1) (-1) ++ ((i : Int) :: r.prt false (i + b.len + 2) (-1) ++ B)) by simp, hb]
   rw [show A ++ [q] ++ (b.prt true (i + 1) lp ++ ((i : Int) :: r.prt false (i + b.len + 2) (-1) ++ B)) = A ++ (q :: (b.prt true (i + 1) lp ++ (i : Int) :: r.prt false (i + b.len + 2) (-1)) ++ B) by simp]
   rw [lvR_end C _ _ i _ _ (by omega) (hi _ _ (Sy.len_prt _ _ _ _)) (by omega) (by omega)]
   rw [show i + 1 + b.len + 1 = i + b.len + 2 by omega]
   exact hr _ (Sy.len_prt _ _ _ _)
 | ife x b y c z r ih1 ih2 ih3 =>
  intro m i ls lp L A B pre rest hC hp hw hA hL
  obtain ⟨w1, w2, w3, w4, w5, w6⟩ := hw
  have e0 : C = pre ++ x :: (b.cod ++ y :: (c.cod ++ z :: (r.cod ++ rest))) := by rw [hC]; simp [Sy.cod]
  have e1 : C = (pre ++ [x]) ++ (b.cod ++ y :: (c.cod ++ z :: (r.cod ++ rest))) := by rw [e0]; simp
  have e2 : C = (pre ++ x :: b.cod) ++ y :: (c.cod ++ z :: (r.cod ++ rest)) := by rw [e0]; simp
  have e3 : C = (pre ++ x :: (b.cod ++ [y])) ++ (c.cod ++ z :: (r.cod ++ rest)) := by rw [e0]; simp
  have e4 : C = (pre ++ x :: (b.cod ++ y :: c.cod)) ++ z :: (r.cod ++ rest) := by rw [e0]; simp
  have e5 : C = (pre ++ x :: (b.cod ++ y :: (c.cod ++ [z]))) ++ (r.cod ++ rest) := by rw [e0]; simp
  obtain ⟨h1, h2⟩ := op_at e0 hp
  obtain ⟨k1, k2⟩ := op_at e2 (i := i + 1 + b.len) (by simp [Sy.len_cod]; omega)
  obtain ⟨m1, m2⟩ := op_at e4 (i := i + b.len + 2 + c.len) (by simp [Sy.len_cod]; omega)
  rw [show m + (Sy.ife x b y c z r).len = ((m + r.len + 1 + c.len) + 1 + b.len) + 1 by simp [Sy.len]; omega]
  simp only [Sy.prt]
  obtain ⟨q, hq⟩ : ∃ q : Int, ((i + b.len + 1 : Nat) : Int) = q := ⟨_, rfl⟩
  obtain ⟨t, ht⟩ : ∃ t : Int, ((i + b.len + c.len + 2 : Nat) : Int) = t := ⟨_, rfl⟩
  rw [hq, ht]
  have hb := ih1 ((m + r.len + 1 + c.len) + 1) (i + 1) ls lp L (A ++ [q]) (t :: (c.prt false (i + b.len + 2) (-1) ++ (i : Int) :: r.prt false (i + b.len + c.len + 3) (-1)) ++ B) _ _ e1 (by simp; omega) w4 (by simp; omega) (fun h => by obtain ⟨a, s, e, h1, h2⟩ := hL h; exact ⟨a, s, e, by omega, by rw [getD_in _ (by omega)]; exact h2⟩)
  have hc := ih2 ((m + r.len) + 1) (i + b.len + 2) ls lp L (A ++ (q :: (b.prt true (i + 1) lp ++ [t]))) ((i : Int) :: r.prt false (i + b.len + c.len + 3) (-1) ++ B) _ _ e3 (by simp [Sy.len_cod]; omega) w5 (by simp [Sy.len_prt]; omega) (fun h => by obtain ⟨a, s, e, h1, h2⟩ := hL h; exact ⟨a, s, e, by omega, by rw [getD_in _ (by omega)]; exact h2⟩)
  have hr := ih3 m (i + b.len + c.len + 3) ls lp L (A ++ (q :: (b.prt true (i + 1) lp ++ t :: (c.prt true (i + b.len + 2) lp ++ [(i : Int)])))) B _ rest e5 (by simp [Sy.len_cod]; omega) w6 (by simp [Sy.len_prt]; omega) (fun h => by obtain ⟨a, s, e, h1, h2⟩ := hL h; exact ⟨a, s, e, by omega, by rw [getD_in _ (by omega)]; exact h2⟩)
  rw [lvR_op _ _ _ _ _ (by omega) (by omega) (by omega)]
  rw [show A ++ (q :: (b.prt false (i + 1) (-1) ++ t :: (c.prt false (i + b.len + 2) (-1) ++ (i : Int) :: r.prt false (i + b.len + c.len + 3) (-1))) ++ B) = A ++ [q] ++ (b.prt false (i + 1) (-1) ++ (t :: (c.prt false (i + b.len + 2) (-1) ++ (i : Int) :: r.prt false (i + b.len + c.len + 3) (-1)) ++ B)) by simp, hb]
  rw [show i + 1 + b.len = i + b.len + 1 by omega] at *
  rw [lvR_op _ _ _ _ _ (by omega) (by omega) (by omega)]
  rw [show A ++ [q] ++ (b.prt true (i + 1) lp ++ (t :: (c.prt false (i + b.len + 2) (-1) ++ (i : Int) :: r.prt false (i + b.len + c.len + 3) (-1)) ++ B)) = A ++ (q :: (b.prt true (i + 1) lp ++ [t])) ++ (c.prt false (i + b.len + 2) (-1) ++ ((i : Int) :: r.prt false (i + b.len + c.len + 3) (-1) ++ B)) by simp]
  rw [show i + b.len + 1 + 1 = i + b.len + 2 by omega, show m + r.len + 1 + c.len = (m + r.len) + 1 + c.len by omega, hc]
  have hi : (A ++ (q :: (b.prt true (i + 1) lp ++ [t])) ++ (c.prt true (i + b.len + 2) lp ++ ((i : Int) :: r.prt false (i + b.len + c.len + 3) (-1) ++ B))).getD (i + b.len + 2 + c.len) 0 = (i : Int) := by
   rw [show A ++ (q :: (b.prt true (i + 1) lp ++ [t])) ++ (c.prt true (i + b.len + 2) lp ++ ((i : Int) :: r.prt false (i + b.len + c.len + 3) (-1) ++ B)) = (A ++ (q :: (b.prt true (i + 1) lp ++ t :: c.prt true (i + b.len + 2) lp))) ++ (i : Int) :: (r.prt false (i + b.len + c.len + 3) (-1) ++ B) by simp]
   exact getD_mid (by simp [Sy.len_prt]; omega)
  rw [lvR_end C _ _ i _ _ (by omega) hi (by omega) (by omega)]
  rw [show A ++ (q :: (b.prt true (i + 1) lp ++ [t])) ++ (c.prt true (i + b.len + 2) lp ++ ((i : Int) :: r.prt false (i + b.len + c.len + 3) (-1) ++ B)) = A ++ (q :: (b.prt true (i + 1) lp ++ t :: (c.prt true (i + b.len + 2) lp ++ [(i : Int)]))) ++ (r.prt false (i + b.len + c.len + 3) (-1) ++ B) by simp]
  rw [show i + b.len + 2 + c.len + 1 = i + b.len + c.len + 3 by omega, hr]
  rw [show i + b.len + c.len + 3 + r.len = i + (Sy.ife x b y c z r).len by simp [Sy.len]; omega]
  simp
theorem lvR_whole (S : Sy) (hw : S.wf false) : lvR S.cod S.cod.length 0 [] (S.prt false 0 (-1)) = some (S.prt true 0 (-1)) := by
 have := lvR_sy S.cod S 0 0 [] (-1) false [] [] [] [] (by simp) rfl hw rfl (by simp)
 simp only [List.nil_append, List.append_nil, Nat.zero_add] at this
 rw [Sy.len_cod, this]
 rfl
end Go.Proofs.YtgjjklajipekdaaGreat
