/- Layer 18: the plain law of partners: they lead back. -/
import Derived.Test.YtcnbljohhajkhaaWm
namespace Go.Proofs.Ytcnbljohhajkhaa
set_option linter.unusedVariables false
set_option linter.unusedSimpArgs false

def LB (C : List (Int × Int)) (p : List Int) (q : Nat) : Prop :=
  if opAt C q = 27 ∨ opAt C q = 28 ∨ opAt C q = 29 ∨ opAt C q = 30 then
    ∃ (nn en pe : Nat), p.getD q 0 = (nn : Int) ∧ q < nn ∧ nn < C.length ∧ ((opAt C nn = 31 ∧ en = nn) ∨ (opAt C q = 27 ∧ opAt C nn = 28 ∧ p.getD nn 0 = (en : Int))) ∧ en < C.length ∧ opAt C en = 31 ∧
      p.getD en 0 = (pe : Int) ∧ pe ≤ q ∧ (opAt C q = 30 → opAt C pe = 29) ∧ (opAt C q = 29 ∨ opAt C q = 27 → pe = q)
  else if opAt C q = 31 then ∃ nn : Nat, p.getD q 0 = (nn : Int) ∧ nn < q ∧ (opAt C nn = 27 ∨ opAt C nn = 29)
  else p.getD q 0 = -1
theorem getD_at {A B : List Int} {x : Int} {P : List Int} {i : Nat} (h : P = A ++ x :: B) (hi : A.length = i) : P.getD i 0 = x := by
  rw [h, List.getD, get_at A x B i hi]
  rfl
/-- Where leaves lead. -/
def Cx (C : List (Int × Int)) (p : List Int) (L : Bool) (lp : Int) (i j : Nat) : Prop := L = true → ∃ (e l : Nat), lp = (e : Int) ∧ j ≤ e ∧ e < C.length ∧ opAt C e = 31 ∧ p.getD e 0 = (l : Int) ∧ l < i ∧ opAt C l = 29
theorem leads (C : List (Int × Int)) (p : List Int) (S : Sy) : ∀ (L : Bool) (i : Nat) (lp : Int) (pre rest : List (Int × Int)) (PA PB : List Int), C = pre ++ (S.cod ++ rest) → pre.length = i → S.wf L → p = PA ++ (S.prt true i lp ++ PB) → PA.length = i → Cx C p L lp i (i + S.len) →
    ∀ q, i ≤ q → q < i + S.len → LB C p q := by
  induction S with
  | nil => intro L i lp pre rest PA PB hC hp hw hP hA hx q h1 h2; simp [Sy.len] at h2; omega
  | op x r ih =>
    intro L i lp pre rest PA PB hC hp hw hP hA hx q h1 h2
    obtain ⟨w1, w2, w3, w4, w5, w6⟩ := hw
    have e0 : C = pre ++ x :: (r.cod ++ rest) := by rw [hC]; rfl
    have p0 : p = PA ++ (if x.1 = 30 then lp else -1) :: (r.prt true (i + 1) lp ++ PB) := by rw [hP]; rfl
    obtain ⟨k1, k2⟩ := op_at e0 hp
    by_cases hq : q = i
    · subst hq
      have hg := getD_at p0 hA
      unfold LB
      rw [k1, hg]
      by_cases h30 : x.1 = 30
      · rw [if_pos h30, if_pos (by omega)]
        obtain ⟨e, l, g1, g2, g3, g4, g5, g6, g7⟩ := hx (w5 h30)
        simp only [Sy.len] at g2
        exact ⟨e, e, l, g1, by omega, g3, Or.inl ⟨g4, rfl⟩, g3, g4, g5, by omega, fun _ => g7, fun h => by omega⟩
      · rw [if_neg h30, if_neg (by omega), if_neg w4]
    · simp only [Sy.len] at h2 hx
      exact ih L (i + 1) lp (pre ++ [x]) rest (PA ++ [if x.1 = 30 then lp else -1]) PB (by rw [e0]; simp) (by simp; omega) w6 (by rw [p0]; simp) (by simp; omega) (fun h => by
        obtain ⟨e, l, g1, g2, g3, g4, g5, g6, g7⟩ := hx h
        exact ⟨e, l, g1, by omega, g3, g4, g5, by omega, g7⟩) q (by omega) (by omega)
  | blk x b z r ih1 ih2 =>
    intro L i lp pre rest PA PB hC hp hw hP hA hx q h1 h2
    obtain ⟨w1, w2, w3, w4⟩ := hw
    have e0 : C = pre ++ x :: (b.cod ++ z :: (r.cod ++ rest)) := by rw [hC]; simp [Sy.cod]
    have e2 : C = (pre ++ x :: b.cod) ++ z :: (r.cod ++ rest) := by rw [e0]; simp
    obtain ⟨k1, k2⟩ := op_at e0 hp
    obtain ⟨m1, m2⟩ := op_at e2 (i := i + b.len + 1) (by simp [Sy.len_cod]; omega)
    generalize hlb : (if x.1 = 29 ∧ true = true then ((i + b.len + 1 : Nat) : Int) else lp) = lb at *
    have p0 : p = PA ++ ((i + b.len + 1 : Nat) : Int) :: (b.prt true (i + 1) lb ++ (i : Int) :: (r.prt true (i + b.len + 2) lp ++ PB)) := by rw [hP, ← hlb]; simp [Sy.prt]
    have p2 : p = (PA ++ ((i + b.len + 1 : Nat) : Int) :: b.prt true (i + 1) lb) ++ (i : Int) :: (r.prt true (i + b.len + 2) lp ++ PB) := by rw [p0]; simp
    have g1 := getD_at p0 hA
    have g2 := getD_at p2 (i := i + b.len + 1) (by simp [Sy.len_prt]; omega)
    simp only [Sy.len] at h2 hx
    by_cases hq : q = i
    · subst hq
      unfold LB
      rw [k1, g1, if_pos (by omega)]
      exact ⟨q + b.len + 1, q + b.len + 1, q, rfl, by omega, m2, Or.inl ⟨by rw [m1]; exact w2, rfl⟩, m2, by rw [m1]; exact w2, g2, Nat.le_refl _, fun h => by omega, fun _ => rfl⟩
    by_cases hq2 : q < i + 1 + b.len
    · refine ih1 (L || x.1 == 29) (i + 1) lb (pre ++ [x]) (z :: (r.cod ++ rest)) (PA ++ [((i + b.len + 1 : Nat) : Int)]) ((i : Int) :: (r.prt true (i + b.len + 2) lp ++ PB)) (by rw [e0]; simp) (by simp; omega) w3 (by rw [p0]; simp) (by simp; omega) (fun h => ?_) q (by omega) hq2
      by_cases h29 : x.1 = 29
      · rw [if_pos ⟨h29, rfl⟩] at hlb
        exact ⟨i + b.len + 1, i, hlb.symm, by omega, m2, by rw [m1]; exact w2, g2, by omega, by rw [k1]; exact h29⟩
      · rw [if_neg (fun h' => h29 h'.1)] at hlb
        subst hlb
        have hLt : L = true := by simpa [h29] using h
        obtain ⟨e, l, a1, a2, a3, a4, a5, a6, a7⟩ := hx hLt
        exact ⟨e, l, a1, by omega, a3, a4, a5, by omega, a7⟩
    by_cases hq3 : q = i + b.len + 1
    · subst hq3
      unfold LB
      rw [m1, w2, if_neg (by omega), if_pos rfl, g2]
      exact ⟨i, rfl, by omega, by rw [k1]; exact w1⟩
    · exact ih2 L (i + b.len + 2) lp (pre ++ x :: (b.cod ++ [z])) rest (PA ++ ((i + b.len + 1 : Nat) : Int) :: (b.prt true (i + 1) lb ++ [(i : Int)])) PB (by rw [e0]; simp) (by simp [Sy.len_cod]; omega) w4 (by rw [p0]; simp) (by simp [Sy.len_prt]; omega) (fun h => by
        obtain ⟨e, l, a1, a2, a3, a4, a5, a6, a7⟩ := hx h
        exact ⟨e, l, a1, by omega, a3, a4, a5, by omega, a7⟩) q (by omega) (by omega)
  | ife x b y c z r ih1 ih2 ih3 =>
    intro L i lp pre rest PA PB hC hp hw hP hA hx q h1 h2
    obtain ⟨w1, w2, w3, w4, w5, w6⟩ := hw
    have e0 : C = pre ++ x :: (b.cod ++ y :: (c.cod ++ z :: (r.cod ++ rest))) := by rw [hC]; simp [Sy.cod]
    have e2 : C = (pre ++ x :: b.cod) ++ y :: (c.cod ++ z :: (r.cod ++ rest)) := by rw [e0]; simp
    have e4 : C = (pre ++ x :: (b.cod ++ y :: c.cod)) ++ z :: (r.cod ++ rest) := by rw [e0]; simp
    obtain ⟨k1, k2⟩ := op_at e0 hp
    obtain ⟨m1, m2⟩ := op_at e2 (i := i + b.len + 1) (by simp [Sy.len_cod]; omega)
    obtain ⟨n1, n2⟩ := op_at e4 (i := i + b.len + c.len + 2) (by simp [Sy.len_cod]; omega)
    have p0 : p = PA ++ ((i + b.len + 1 : Nat) : Int) :: (b.prt true (i + 1) lp ++ ((i + b.len + c.len + 2 : Nat) : Int) :: (c.prt true (i + b.len + 2) lp ++ (i : Int) :: (r.prt true (i + b.len + c.len + 3) lp ++ PB))) := by rw [hP]; simp [Sy.prt]
    have p2 : p = (PA ++ ((i + b.len + 1 : Nat) : Int) :: b.prt true (i + 1) lp) ++ ((i + b.len + c.len + 2 : Nat) : Int) :: (c.prt true (i + b.len + 2) lp ++ (i : Int) :: (r.prt true (i + b.len + c.len + 3) lp ++ PB)) := by rw [p0]; simp
    have p4 : p = (PA ++ ((i + b.len + 1 : Nat) : Int) :: (b.prt true (i + 1) lp ++ ((i + b.len + c.len + 2 : Nat) : Int) :: c.prt true (i + b.len + 2) lp)) ++ (i : Int) :: (r.prt true (i + b.len + c.len + 3) lp ++ PB) := by rw [p0]; simp
    have g1 := getD_at p0 hA
    have g2 := getD_at p2 (i := i + b.len + 1) (by simp [Sy.len_prt]; omega)
    have g4 := getD_at p4 (i := i + b.len + c.len + 2) (by simp [Sy.len_prt]; omega)
    simp only [Sy.len] at h2 hx
    by_cases hq : q = i
    · subst hq
      unfold LB
      rw [k1, g1, if_pos (by omega)]
      exact ⟨q + b.len + 1, q + b.len + c.len + 2, q, rfl, by omega, m2, Or.inr ⟨w1, by rw [m1]; exact w2, g2⟩, n2, by rw [n1]; exact w3, g4, Nat.le_refl _, fun h => by omega, fun _ => rfl⟩
    by_cases hq2 : q < i + 1 + b.len
    · exact ih1 L (i + 1) lp (pre ++ [x]) _ (PA ++ [((i + b.len + 1 : Nat) : Int)]) _ (by rw [e0]; simp; rfl) (by simp; omega) w4 (by rw [p0]; simp; rfl) (by simp; omega) (fun h => by
        obtain ⟨e, l, a1, a2, a3, a4, a5, a6, a7⟩ := hx h
        exact ⟨e, l, a1, by omega, a3, a4, a5, by omega, a7⟩) q (by omega) hq2
    by_cases hq3 : q = i + b.len + 1
    · subst hq3
      unfold LB
      rw [m1, w2, if_pos (by omega), g2]
      exact ⟨i + b.len + c.len + 2, i + b.len + c.len + 2, i, rfl, by omega, n2, Or.inl ⟨by rw [n1]; exact w3, rfl⟩, n2, by rw [n1]; exact w3, g4, by omega, fun h => by omega, fun h => by omega⟩
    by_cases hq4 : q < i + b.len + 2 + c.len
    · exact ih2 L (i + b.len + 2) lp (pre ++ x :: (b.cod ++ [y])) (z :: (r.cod ++ rest)) (PA ++ ((i + b.len + 1 : Nat) : Int) :: (b.prt true (i + 1) lp ++ [((i + b.len + c.len + 2 : Nat) : Int)])) ((i : Int) :: (r.prt true (i + b.len + c.len + 3) lp ++ PB)) (by rw [e0]; simp) (by simp [Sy.len_cod]; omega) w5 (by rw [p0]; simp) (by simp [Sy.len_prt]; omega) (fun h => by
        obtain ⟨e, l, a1, a2, a3, a4, a5, a6, a7⟩ := hx h
        exact ⟨e, l, a1, by omega, a3, a4, a5, by omega, a7⟩) q (by omega) hq4
    by_cases hq5 : q = i + b.len + c.len + 2
    · subst hq5
      unfold LB
      rw [n1, w3, if_neg (by omega), if_pos rfl, g4]
      exact ⟨i, rfl, by omega, Or.inl (by rw [k1]; exact w1)⟩
    · exact ih3 L (i + b.len + c.len + 3) lp (pre ++ x :: (b.cod ++ y :: (c.cod ++ [z]))) rest (PA ++ ((i + b.len + 1 : Nat) : Int) :: (b.prt true (i + 1) lp ++ ((i + b.len + c.len + 2 : Nat) : Int) :: (c.prt true (i + b.len + 2) lp ++ [(i : Int)]))) PB (by rw [e0]; simp) (by simp [Sy.len_cod]; omega) w6 (by rw [p0]; simp) (by simp [Sy.len_prt]; omega) (fun h => by
        obtain ⟨e, l, a1, a2, a3, a4, a5, a6, a7⟩ := hx h
        exact ⟨e, l, a1, by omega, a3, a4, a5, by omega, a7⟩) q (by omega) (by omega)
/-- The law of leading back. -/
theorem leads_law (C : List (Int × Int)) (hl : C.length ≤ 1024) (r : T × List Int) (h : wholeF C = .ok r) : r.2.length = C.length ∧ ∀ q, q < C.length → LB C r.2 q := by
  rcases whole_law C with ⟨S, hC, hw, hd, -⟩ | ⟨e, hwe, -⟩
  · have hW := whole_of S hw hd
    rw [← hC] at hW
    rw [h] at hW
    simp only [Except.ok.injEq] at hW
    subst hW
    simp only
    have hn : C.length = S.len := by rw [hC, Sy.len_cod]
    refine ⟨by rw [Sy.len_prt, hn], fun q hq => ?_⟩
    exact leads C (S.prt true 0 (-1)) S false 0 (-1) [] [] [] [] (by simpa using hC) rfl hw (by simp) rfl (fun h => by simp at h) q (Nat.zero_le _) (by omega)
  · rw [h] at hwe; simp at hwe
end Go.Proofs.Ytcnbljohhajkhaa
