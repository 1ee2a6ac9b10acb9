/- The plain law: what the reference decodes is what the program decodes. -/
import Derived.Test.YtchkbidekmaaiaaKg
namespace Go.Proofs.Ytchkbidekmaaiaa
open Go.RowKit
set_option linter.unusedVariables false

def errD (e : Int) : Dec := ⟨e, [], 0, [], []⟩
def decR (S : List Int) : Dec :=
  if (arraysR S).1 ≠ 0 then errD (arraysR S).1 else
  if (wrd (arraysR S).2.2).1 ≠ 0 then errD (wrd (arraysR S).2.2).1 else
  if (codeR (wrd (arraysR S).2.2).2.2).1 ≠ 0 then errD (codeR (wrd (arraysR S).2.2).2.2).1 else
  if formE (arraysR S).2.1 (wrd (arraysR S).2.2).2.1 (codeR (wrd (arraysR S).2.2).2.2).2.1 ≠ 0 then errD (formE (arraysR S).2.1 (wrd (arraysR S).2.2).2.1 (codeR (wrd (arraysR S).2.2).2.2).2.1) else
  ⟨0, (arraysR S).2.1, (wrd (arraysR S).2.2).2.1, (codeR (wrd (arraysR S).2.2).2.2).2.1, (codeR (wrd (arraysR S).2.2).2.2).2.2⟩
theorem numF_0 (most beyond : Int) (S : List Int) : numF most beyond S 0 = if (wrd S).1 ≠ 0 then (0, (wrd S).2.2, (wrd S).1) else if most < (wrd S).2.1 then (0, (wrd S).2.2, beyond) else ((wrd S).2.1, (wrd S).2.2, 0) := by
  unfold numF
  rw [if_neg (by simp)]
theorem numF_e (most beyond : Int) (S : List Int) (e : Int) (h : e ≠ 0) : numF most beyond S e = (0, S, e) := if_pos h
theorem opF_e (S : List Int) (e : Int) (h : e ≠ 0) : opF S e = (0, S, e) := if_pos h
theorem argF_e (op : Int) (S : List Int) (e : Int) (h : e ≠ 0) : argF op S e = (0, S, e) := by
  unfold argF
  split
  · exact numF_e _ _ _ _ h
  · rfl
theorem arrIt_e (S : List Int) (e : Int) (h : e ≠ 0) (k : Nat) : (arrIt S e k).2.2 = e := by
  induction k with
  | zero => rfl
  | succ k ih =>
    show (numF 9007199254740991 2 (arrIt S e k).2.1 (arrIt S e k).2.2).2.2 = e
    rw [numF_e _ _ _ _ (by rw [ih]; exact h)]
    exact ih
theorem codIt_e (S : List Int) (e : Int) (h : e ≠ 0) (k : Nat) : (codIt S e k).2.2 = e := by
  induction k with
  | zero => rfl
  | succ k ih =>
    show (argF (opF (codIt S e k).2.1 (codIt S e k).2.2).1 (opF (codIt S e k).2.1 (codIt S e k).2.2).2.1 (opF (codIt S e k).2.1 (codIt S e k).2.2).2.2).2.2 = e
    rw [opF_e _ _ (by rw [ih]; exact h)]
    simp only
    rw [argF_e _ _ _ (by rw [ih]; exact h)]
    exact ih
theorem arrIt_R (S : List Int) (hb : Bytes S) (k : Nat) : ((arrR k S).1 = 0 → arrIt S 0 k = ((arrR k S).2.1, (arrR k S).2.2, 0)) ∧ ((arrR k S).1 ≠ 0 → (arrIt S 0 k).2.2 = (arrR k S).1) := by
  induction k with
  | zero => exact ⟨fun _ => rfl, fun h => absurd rfl h⟩
  | succ k ih =>
    have e1 : arrIt S 0 (k + 1) = ((arrIt S 0 k).1 ++ [((numF 9007199254740991 2 (arrIt S 0 k).2.1 (arrIt S 0 k).2.2).1 % 2 == 1, (numF 9007199254740991 2 (arrIt S 0 k).2.1 (arrIt S 0 k).2.2).1 / 2)], (numF 9007199254740991 2 (arrIt S 0 k).2.1 (arrIt S 0 k).2.2).2) := rfl
    by_cases h1 : (arrR k S).1 = 0
    · have hk := ih.1 h1
      have e2 : arrR (k + 1) S = if (wrd (arrR k S).2.2).1 ≠ 0 then ((wrd (arrR k S).2.2).1, [], []) else (0, (arrR k S).2.1 ++ [((wrd (arrR k S).2.2).2.1 % 2 == 1, (wrd (arrR k S).2.2).2.1 / 2)], (wrd (arrR k S).2.2).2.2) := if_neg (by simp [h1])
      rw [hk] at e1
      simp only at e1
      rw [numF_0] at e1
      have hn := wrd_num (arrR k S).2.2 ((arrR_sub k S).bytes hb)
      by_cases h2 : (wrd (arrR k S).2.2).1 = 0
      · rw [if_neg (by simp [h2])] at e1 e2
        rw [if_neg (by have := hn h2; omega)] at e1
        rw [e1, e2]
        exact ⟨fun _ => rfl, fun h => absurd rfl h⟩
      · rw [if_pos h2] at e1 e2
        rw [e1, e2]
        exact ⟨fun h => absurd h h2, fun _ => rfl⟩
    · have hk := ih.2 h1
      have e2 : arrR (k + 1) S = arrR k S := if_pos h1
      rw [e2]
      refine ⟨fun h => absurd h h1, fun _ => ?_⟩
      rw [e1, hk]
      simp only
      rw [numF_e _ _ _ _ h1]
theorem codIt_R (S : List Int) (hb : Bytes S) (k : Nat) : ((codR k S).1 = 0 → codIt S 0 k = ((codR k S).2.1, (codR k S).2.2, 0)) ∧ ((codR k S).1 ≠ 0 → (codIt S 0 k).2.2 = (codR k S).1) := by
  induction k with
  | zero => exact ⟨fun _ => rfl, fun h => absurd rfl h⟩
  | succ k ih =>
    have e1 : codIt S 0 (k + 1) = ((codIt S 0 k).1 ++ [((opF (codIt S 0 k).2.1 (codIt S 0 k).2.2).1, (argF (opF (codIt S 0 k).2.1 (codIt S 0 k).2.2).1 (opF (codIt S 0 k).2.1 (codIt S 0 k).2.2).2.1 (opF (codIt S 0 k).2.1 (codIt S 0 k).2.2).2.2).1)],
      (argF (opF (codIt S 0 k).2.1 (codIt S 0 k).2.2).1 (opF (codIt S 0 k).2.1 (codIt S 0 k).2.2).2.1 (opF (codIt S 0 k).2.1 (codIt S 0 k).2.2).2.2).2) := rfl
    by_cases h1 : (codR k S).1 = 0
    · have hk := ih.1 h1
      have e2 : codR (k + 1) S = if (stepI (codR k S).2.2).1 ≠ 0 then ((stepI (codR k S).2.2).1, [], []) else (0, (codR k S).2.1 ++ [(stepI (codR k S).2.2).2.1], (stepI (codR k S).2.2).2.2) := if_neg (by simp [h1])
      rw [hk] at e1
      simp only at e1
      rw [e1, e2]
      have hbk := (codR_sub k S).bytes hb
      generalize (codR k S).2.2 = T at *
      match T, hbk with
      | [], _ =>
        have ho : opF [] 0 = (0, [], 9) := rfl
        have hst : (stepI []).1 = 9 := rfl
        rw [ho]
        simp only
        rw [argF_e _ _ _ (by decide), if_pos (by rw [hst]; decide)]
        exact ⟨fun h => absurd h (by rw [hst]; decide), fun _ => rfl⟩
      | x :: r, hbk =>
        have ho : opF (x :: r) 0 = (x, r, 0) := rfl
        rw [ho]
        simp only
        rw [stepI_cons]
        unfold argF
        have hn := wrd_num r (fun z hz => hbk z (List.mem_cons_of_mem _ hz))
        by_cases hh : (opAt x).2.2.2.2 = true
        · simp only [if_pos hh]
          have hN := numF_0 4294967295 2 r
          by_cases h2 : (wrd r).1 = 0
          · rw [if_neg (by simp [h2])] at hN
            by_cases h3 : 4294967296 ≤ (wrd r).2.1
            · rw [if_pos (by omega)] at hN
              have hst : (if (wrd r).1 ≠ 0 then ((wrd r).1, ((0, 0) : Int × Int), ([] : List Int)) else if 4294967296 ≤ (wrd r).2.1 then (2, (0, 0), []) else (0, (x, (wrd r).2.1), (wrd r).2.2)) = (2, (0, 0), []) := by rw [if_neg (by simp [h2]), if_pos h3]
              rw [hN, hst]
              exact ⟨fun h => absurd h (show ¬ ((2 : Int) = 0) by decide), fun _ => rfl⟩
            · rw [if_neg (by omega)] at hN
              have hst : (if (wrd r).1 ≠ 0 then ((wrd r).1, ((0, 0) : Int × Int), ([] : List Int)) else if 4294967296 ≤ (wrd r).2.1 then (2, (0, 0), []) else (0, (x, (wrd r).2.1), (wrd r).2.2)) = (0, (x, (wrd r).2.1), (wrd r).2.2) := by rw [if_neg (by simp [h2]), if_neg h3]
              rw [hN, hst]
              exact ⟨fun _ => rfl, fun h => absurd rfl h⟩
          · rw [if_pos h2] at hN
            have hst : (if (wrd r).1 ≠ 0 then ((wrd r).1, ((0, 0) : Int × Int), ([] : List Int)) else if 4294967296 ≤ (wrd r).2.1 then (2, (0, 0), []) else (0, (x, (wrd r).2.1), (wrd r).2.2)) = ((wrd r).1, (0, 0), []) := if_pos h2
            rw [hN, hst, if_pos h2]
            exact ⟨fun h => absurd h h2, fun _ => rfl⟩
        · simp only [if_neg hh]
          exact ⟨fun _ => rfl, fun h => absurd rfl h⟩
    · have hk := ih.2 h1
      have e2 : codR (k + 1) S = codR k S := if_pos h1
      rw [e2]
      refine ⟨fun h => absurd h h1, fun _ => ?_⟩
      rw [e1, hk]
      simp only
      rw [opF_e _ _ h1]
      simp only
      rw [argF_e _ _ _ h1]
theorem arrR_ok (S : List Int) (hb : Bytes S) (k : Nat) : OkA (arrR k S).2.1 := by
  by_cases h : (arrR k S).1 = 0
  · have h1 := (arrIt_R S hb k).1 h
    have h2 := arrIt_ok S hb 0 k
    rw [h1] at h2
    exact h2
  · rw [arrR_err k S h]
    intro x hx
    cases hx
theorem codR_ok (S : List Int) (hb : Bytes S) (k : Nat) : OkI (codR k S).2.1 := by
  by_cases h : (codR k S).1 = 0
  · have h1 := (codIt_R S hb k).1 h
    have h2 := codIt_ok S hb 0 k
    rw [h1] at h2
    exact h2
  · rw [codR_err k S h]
    intro x hx
    cases hx
theorem arraysR_ok (S : List Int) (hb : Bytes S) : (arraysR S).1 = 0 → OkA (arraysR S).2.1 ∧ Sub S (arraysR S).2.2 ∧ 0 ≤ (arraysR S).2.1.length ∧ (arraysR S).2.1.length ≤ 8 := by
  unfold arraysR
  by_cases h1 : (wrd S).1 = 0
  · rw [if_neg (by simp [h1])]
    by_cases h2 : 8 < (wrd S).2.1
    · rw [if_pos h2]; intro h; exact absurd h (show ¬ ((6 : Int) = 0) by decide)
    · rw [if_neg h2]
      intro h
      have hb2 := (show Sub S (wrd S).2.2 from wrd_sub S).bytes hb
      have hn := wrd_num S hb h1
      refine ⟨arrR_ok _ hb2 _, (show Sub S (wrd S).2.2 from wrd_sub S).trans (arrR_sub _ _), Nat.zero_le _, ?_⟩
      rw [arrR_len _ _ h]
      omega
  · rw [if_pos h1]; intro h; exact absurd h h1
theorem codeR_ok (S : List Int) (hb : Bytes S) : (codeR S).1 = 0 → OkI (codeR S).2.1 ∧ Sub S (codeR S).2.2 := by
  unfold codeR
  by_cases h1 : (wrd S).1 = 0
  · rw [if_neg (by simp [h1])]
    by_cases h2 : 1024 < (wrd S).2.1
    · rw [if_pos h2]; intro h; exact absurd h (show ¬ ((6 : Int) = 0) by decide)
    · rw [if_neg h2]
      intro h
      have hb2 := (show Sub S (wrd S).2.2 from wrd_sub S).bytes hb
      exact ⟨codR_ok _ hb2 _, (show Sub S (wrd S).2.2 from wrd_sub S).trans (codR_sub _ _)⟩
  · rw [if_pos h1]; intro h; exact absurd h h1
def s1F (S : List Int) : Int × List Int × Int := numF 8 6 S 0
def s2F (S : List Int) : List (Bool × Int) × List Int × Int := arrIt (s1F S).2.1 (s1F S).2.2 (s1F S).1.toNat
def s3F (S : List Int) : Int × List Int × Int := numF 9007199254740991 2 (s2F S).2.1 (s2F S).2.2
def s4F (S : List Int) : Int × List Int × Int := numF 1024 6 (s3F S).2.1 (s3F S).2.2
def s5F (S : List Int) : List (Int × Int) × List Int × Int := codIt (s4F S).2.1 (s4F S).2.2 (s4F S).1.toNat
theorem decG_eq (S : List Int) : decG S = ⟨if (s5F S).2.2 = 0 then formE (s2F S).1 (s3F S).1 (s5F S).1 else (s5F S).2.2, (s2F S).1, (s3F S).1, (s5F S).1, (s5F S).2.1⟩ := rfl
theorem decF_e5 (S : List Int) (e : Int) (he : e ≠ 0) (h : (s5F S).2.2 = e) : decF S = errD e := by
  have hg : (decG S).e = e := by rw [decG_eq]; show (if (s5F S).2.2 = 0 then _ else (s5F S).2.2) = e; rw [h, if_neg he]
  unfold decF
  rw [hg, if_pos he]
  rfl
theorem decF_e4 (S : List Int) (e : Int) (he : e ≠ 0) (h : (s4F S).2.2 = e) : decF S = errD e := decF_e5 S e he (by unfold s5F; rw [h]; exact codIt_e _ _ he _)
theorem decF_e3 (S : List Int) (e : Int) (he : e ≠ 0) (h : (s3F S).2.2 = e) : decF S = errD e := decF_e4 S e he (by unfold s4F; rw [h, numF_e _ _ _ _ he])
theorem decF_e2 (S : List Int) (e : Int) (he : e ≠ 0) (h : (s2F S).2.2 = e) : decF S = errD e := decF_e3 S e he (by unfold s3F; rw [h, numF_e _ _ _ _ he])
theorem decF_e1 (S : List Int) (e : Int) (he : e ≠ 0) (h : (s1F S).2.2 = e) : decF S = errD e := decF_e2 S e he (by unfold s2F; rw [h]; exact arrIt_e _ _ he _)
theorem decR_1 (S : List Int) (e : Int) (he : e ≠ 0) (h : (arraysR S).1 = e) : decR S = errD e := by
  unfold decR
  rw [h, if_pos he]
theorem decR_2 (S : List Int) {A : List (Bool × Int)} {T : List Int} (h : arraysR S = (0, A, T)) (h2 : (wrd T).1 ≠ 0) : decR S = errD (wrd T).1 := by
  unfold decR
  rw [h]
  show (if (0 : Int) ≠ 0 then _ else if (wrd T).1 ≠ 0 then _ else _) = _
  rw [if_neg (by simp), if_pos h2]
theorem decR_3 (S : List Int) {A : List (Bool × Int)} {T : List Int} (h : arraysR S = (0, A, T)) (h2 : (wrd T).1 = 0) (e : Int) (he : e ≠ 0) (h3 : (codeR (wrd T).2.2).1 = e) : decR S = errD e := by
  unfold decR
  rw [h]
  show (if (0 : Int) ≠ 0 then _ else if (wrd T).1 ≠ 0 then _ else if (codeR (wrd T).2.2).1 ≠ 0 then _ else _) = _
  rw [if_neg (by simp), if_neg (by simp [h2]), h3, if_pos he]
theorem decR_4 (S : List Int) {A : List (Bool × Int)} {T U : List Int} {C : List (Int × Int)} (h : arraysR S = (0, A, T)) (h2 : (wrd T).1 = 0) (h3 : codeR (wrd T).2.2 = (0, C, U)) :
    decR S = if formE A (wrd T).2.1 C ≠ 0 then errD (formE A (wrd T).2.1 C) else ⟨0, A, (wrd T).2.1, C, U⟩ := by
  unfold decR
  rw [h]
  show (if (0 : Int) ≠ 0 then _ else if (wrd T).1 ≠ 0 then _ else if (codeR (wrd T).2.2).1 ≠ 0 then _ else if formE A (wrd T).2.1 (codeR (wrd T).2.2).2.1 ≠ 0 then _ else _) = _
  rw [if_neg (by simp), if_neg (by simp [h2]), h3]
  show (if (0 : Int) ≠ 0 then _ else _) = _
  rw [if_neg (by simp)]
theorem dec_same (S : List Int) (hb : Bytes S) : decR S = decF S := by
  have h1 : s1F S = _ := numF_0 8 6 S
  by_cases a1 : (wrd S).1 = 0
  · rw [if_neg (by simp [a1])] at h1
    by_cases a2 : 8 < (wrd S).2.1
    · rw [if_pos a2] at h1
      have hA : arraysR S = (6, [], []) := by unfold arraysR; rw [if_neg (by simp [a1]), if_pos a2]
      rw [decR_1 S 6 (by decide) (by rw [hA]), decF_e1 S 6 (by decide) (by rw [h1])]
    · rw [if_neg a2] at h1
      have hA : arraysR S = arrR (wrd S).2.1.toNat (wrd S).2.2 := by unfold arraysR; rw [if_neg (by simp [a1]), if_neg a2]
      have h2 : s2F S = arrIt (wrd S).2.2 0 (wrd S).2.1.toNat := by unfold s2F; rw [h1]
      have hb2 := (show Sub S (wrd S).2.2 from wrd_sub S).bytes hb
      obtain ⟨i1, i2⟩ := arrIt_R (wrd S).2.2 hb2 (wrd S).2.1.toNat
      have hsub := arrR_sub (wrd S).2.1.toNat (wrd S).2.2
      rw [← hA] at i1 i2 hsub
      by_cases a3 : (arraysR S).1 = 0
      · obtain ⟨T3, hT3⟩ : ∃ T, arraysR S = T := ⟨_, rfl⟩
        rw [hT3] at i1 hsub a3
        obtain ⟨e, A, T⟩ := T3
        simp only at i1 hsub a3
        subst a3
        have h2' : s2F S = (A, T, 0) := by rw [h2]; exact i1 rfl
        have hbT := hsub.bytes hb2
        have h3 : s3F S = numF 9007199254740991 2 T 0 := by unfold s3F; rw [h2']
        rw [numF_0] at h3
        have hn := wrd_num T hbT
        by_cases a4 : (wrd T).1 = 0
        · rw [if_neg (by simp [a4]), if_neg (by have := hn a4; omega)] at h3
          have hb4 := (show Sub T (wrd T).2.2 from wrd_sub T).bytes hbT
          have h4 : s4F S = numF 1024 6 (wrd T).2.2 0 := by unfold s4F; rw [h3]
          rw [numF_0] at h4
          by_cases a5 : (wrd (wrd T).2.2).1 = 0
          · rw [if_neg (by simp [a5])] at h4
            by_cases a6 : 1024 < (wrd (wrd T).2.2).2.1
            · rw [if_pos a6] at h4
              have hC : codeR (wrd T).2.2 = (6, [], []) := by unfold codeR; rw [if_neg (by simp [a5]), if_pos a6]
              rw [decR_3 S hT3 a4 6 (by decide) (by rw [hC]), decF_e4 S 6 (by decide) (by rw [h4])]
            · rw [if_neg a6] at h4
              have hC : codeR (wrd T).2.2 = codR (wrd (wrd T).2.2).2.1.toNat (wrd (wrd T).2.2).2.2 := by unfold codeR; rw [if_neg (by simp [a5]), if_neg a6]
              have h5 : s5F S = codIt (wrd (wrd T).2.2).2.2 0 (wrd (wrd T).2.2).2.1.toNat := by unfold s5F; rw [h4]
              have hb5 := (show Sub (wrd T).2.2 (wrd (wrd T).2.2).2.2 from wrd_sub (wrd T).2.2).bytes hb4
              obtain ⟨j1, j2⟩ := codIt_R (wrd (wrd T).2.2).2.2 hb5 (wrd (wrd T).2.2).2.1.toNat
              rw [← hC] at j1 j2
              by_cases a7 : (codeR (wrd T).2.2).1 = 0
              · obtain ⟨Q, hQ⟩ : ∃ Q, codeR (wrd T).2.2 = Q := ⟨_, rfl⟩
                rw [hQ] at j1 a7
                obtain ⟨f, C, U⟩ := Q
                simp only at j1 a7
                subst a7
                have h5' : s5F S = (C, U, 0) := by rw [h5]; exact j1 rfl
                have hg : decG S = ⟨formE A (wrd T).2.1 C, A, (wrd T).2.1, C, U⟩ := by
                  rw [decG_eq, h5', h2', h3]
                  simp only [if_true]
                rw [decR_4 S hT3 a4 hQ]
                unfold decF
                rw [hg]
                by_cases a8 : formE A (wrd T).2.1 C = 0
                · simp only [a8, ne_eq, not_true, if_false]
                · simp only [ne_eq, a8, not_false_iff, if_true]
                  rfl
              · rw [decR_3 S hT3 a4 _ a7 rfl, decF_e5 S _ a7 (by rw [h5]; exact j2 a7)]
          · rw [if_pos a5] at h4
            have hC : codeR (wrd T).2.2 = ((wrd (wrd T).2.2).1, [], []) := by unfold codeR; rw [if_pos a5]
            rw [decR_3 S hT3 a4 _ a5 (by rw [hC]), decF_e4 S _ a5 (by rw [h4])]
        · rw [if_pos a4] at h3
          rw [decR_2 S hT3 a4, decF_e3 S _ a4 (by rw [h3])]
      · rw [decR_1 S _ a3 rfl, decF_e2 S _ a3 (by rw [h2]; exact i2 a3)]
  · rw [if_pos a1] at h1
    have hA : arraysR S = ((wrd S).1, [], []) := by unfold arraysR; rw [if_pos a1]
    rw [decR_1 S _ a1 (by rw [hA]), decF_e1 S _ a1 (by rw [h1])]
end Go.Proofs.Ytchkbidekmaaiaa
