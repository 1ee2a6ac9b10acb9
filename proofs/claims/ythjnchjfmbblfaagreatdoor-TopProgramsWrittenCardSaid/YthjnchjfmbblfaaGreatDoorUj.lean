/- The plain law: what the reference decodes is what the program decodes. -/
import Derived.Test.YthjnchjfmbblfaaGreatDoorKg
namespace Go.Proofs.YthjnchjfmbblfaaGreatDoor
open Go.RowKit
set_option linter.unusedVariables false

def errD (e : Int) : Dec := ⟨e, [], 0, [], []⟩
def decR (S : List Int) : Dec :=
  if (arraysR S).1 ≠ 0 then errD (arraysR S).1 else
  if (wrd (arraysR S).2.2).1 ≠ 0 then errD (wrd (arraysR S).2.2).1 else
  if (codeR (wrd (arraysR S).2.2).2.2).1 ≠ 0 then errD (codeR (wrd (arraysR S).2.2).2.2).1 else
  if formE (arraysR S).2.1 (wrd (arraysR S).2.2).2.1 (codeR (wrd (arraysR S).2.2).2.2).2.1 ≠ 0 then errD (formE (arraysR S).2.1 (wrd (arraysR S).2.2).2.1 (codeR (wrd (arraysR S).2.2).2.2).2.1) else
  ⟨0, (arraysR S).2.1, (wrd (arraysR S).2.2).2.1, (codeR (wrd (arraysR S).2.2).2.2).2.1, (codeR (wrd (arraysR S).2.2).2.2).2.2⟩
theorem numF_0 (most beyond : Int) (S : List Int) : numF most beyond S 0 = if (wrd S).1 ≠ 0 then (0, (wrd S).2.2, (wrd S).1) else if most < (wrd S).2.1 then (0, (wrd S).2.2, beyond) else ((wrd S).2.1, (wrd S).2.2, 0) := by
  unfold numF
  rw [if_neg (by simp)]
theorem numF_e (most beyond : Int) (S : List Int) (e : Int) (h : e ≠ 0) : numF most beyond S e = (0, S, e) := if_pos h
theorem opF_e (S : List Int) (e : Int) (h : e ≠ 0) : opF S e = (0, S, e) := if_pos h
theorem argF_e (op : Int) (S : List Int) (e : Int) (h : e ≠ 0) : argF op S e = (0, S, e) := by
  unfold argF
  split
  · exact numF_e _ _ _ _ h
  · rfl
theorem arrIt_e (S : List Int) (e : Int) (h : e ≠ 0) (k : Nat) : (arrIt S e k).2.2 = e := by
  induction k with
  | zero => rfl
  | succ k ih =>
    show (numF 9007199254740991 2 (arrIt S e k).2.1 (arrIt S e k).2.2).2.2 = e
    rw [numF_e _ _ _ _ (by rw [ih]; exact h)]
    exact ih
theorem codIt_e (S : List Int) (e : Int) (h : e ≠ 0) (k : Nat) : (codIt S e k).2.2 = e := by
  induction k with
  | zero => rfl
  | succ k ih =>
    show (argF (opF (codIt S e k).2.1 (codIt S e k).2.2).1 (opF (codIt S e k).2.1 (codIt S e k).2.2).2.1 (opF (codIt S e k).2.1 (codIt S e k).2.2).2.2).2.2 = e
    rw [opF_e _ _ (by rw [ih]; exact h)]
    simp only
    rw [argF_e _ _ _ (by rw [ih]; exact h)]
    exact ih
theorem arrIt_R (S : List Int) (hb : Bytes S) (k : Nat) : ((arrR k S).1 = 0 → arrIt S 0 k = ((arrR k S).2.1, (arrR k S).2.2, 0)) ∧ ((arrR k S).1 ≠ 0 → (arrIt S 0 k).2.2 = (arrR k S).1) := by
  induction k with
  | zero => exact ⟨fun _ => rfl, fun h => absurd rfl h⟩
  | succ k ih =>
    have e1 : arrIt S 0 (k + 1) = ((arrIt S 0 k).1 ++ [((numF 9007199254740991 2 (arrIt S 0 k).2.1 (arrIt S 0 k).2.2).1 % 2 == 1, (numF 9007199254740991 2 (arrIt S 0 k).2.1 (arrIt S 0 k).2.2).1 / 2)], (numF 9007199254740991 2 (arrIt S 0 k).2.1 (arrIt S 0 k).2.2).2) := rfl
    by_cases h1 : (arrR k S).1 = 0
    · have hk := ih.1 h1
      have e2 : arrR (k + 1) S = if (wrd (arrR k S).2.2).1 ≠ 0 then ((wrd (arrR k S).2.2).1, [], []) else (0, (arrR k S).2.1 ++ [((wrd (arrR k S).2.2).2.1 % 2 == 1, (wrd (arrR k S).2.2).2.1 / 2)], (wrd (arrR k S).2.2).2.2) := if_neg (by simp [h1])
      rw [hk] at e1
      simp only at e1
      rw [numF_0] at e1
      have hn := wrd_num (arrR k S).2.2 ((arrR_sub k S).bytes hb)
      by_cases h2 : (wrd (arrR k S).2.2).1 = 0
      · rw [if_neg (by simp [h2])] at e1 e2
        rw [if_neg (by have := hn h2; omega)] at e1
        rw [e1, e2]
        exact ⟨fun _ => rfl, fun h => absurd rfl h⟩
      · rw [if_pos h2] at e1 e2
        rw [e1, e2]
        exact ⟨fun h => absurd h h2, fun _ => rfl⟩
    · have hk := ih.2 h1
      have e2 : arrR (k + 1) S = arrR k S := if_pos h1
      rw [e2]
      refine ⟨fun h => absurd h h1, fun _ => ?_⟩
      rw [e1, hk]
      simp only
      rw [numF_e _ _ _ _ h1]
theorem codIt_R (S : List Int) (hb : Bytes S) (k : Nat) : ((codR k S).1 = 0 → codIt S 0 k = ((codR k S).2.1, (codR k S).2.2, 0)) ∧ ((codR k S).1 ≠ 0 → (codIt S 0 k).2.2 = (codR k S).1) := by
  induction k with
  | zero => exact ⟨fun _ => rfl, fun h => absurd rfl h⟩
  | succ k ih =>
    have e1 : codIt S 0 (k + 1) = ((codIt S 0 k).1 ++ [((opF (codIt S 0 k).2.1 (codIt S 0 k).2.2).1, (argF (opF (codIt S 0 k).2.1 (codIt S 0 k).2.2).1 (opF (codIt S 0 k).2.1 (codIt S 0 k).2.2).2.1 (opF (codIt S 0 k).2.1 (codIt S 0 k).2.2).2.2).1)],
      (argF (opF (codIt S 0 k).2.1 (codIt S 0 k).2.2).1 (opF (codIt S 0 k).2.1 (codIt S 0 k).2.2).2.1 (opF (codIt S 0 k).2.1 (codIt S 0 k).2.2).2.2).2) := rfl
    by_cases h1 : (codR k S).1 = 0
    · have hk := ih.1 h1
      have e2 : codR (k + 1) S = if (stepI (codR k S).2.2).1 ≠ 0 then ((stepI (codR k S).2.2).1, [], []) else (0, (codR k S).2.1 ++ [(stepI (codR k S).2.2).2.1], (stepI (codR k S).2.2).2.2) := if_neg (by simp [h1])
      rw [hk] at e1
      simp only at e1
      rw [e1, e2]
      have hbk := (codR_sub k S).bytes hb
      generalize (codR k S).2.2 = T at *
      match T, hbk with
      | [], _ =>
        have ho : opF [] 0 = (0, [], 9) := rfl
        have hst : (stepI []).1 = 9 := rfl
        rw [ho]
        simp only
        rw [argF_e _ _ _ (by decide), if_pos (by rw [hst]; decide)]
        exact ⟨fun h => absurd h (by rw [hst]; decide), fun _ => rfl⟩
      | x :: r, hbk =>
        have ho : opF (x :: r) 0 = (x, r, 0) := rfl
        rw [ho]
        simp only
        rw [stepI_cons]
        unfold argF
        have hn := wrd_num r (fun z hz => hbk z (List.mem_cons_of_mem _ hz))
        by_cases hh : (opAt x).2.2.2.2 = true
        · simp only [if_pos hh]
          have hN := numF_0 4294967295 2 r
          by_cases h2 : (wrd r).1 = 0
          · rw [if_neg (by simp [h2])] at hN
            by_cases h3 : 4294967296 ≤ (wrd r).2.1
            · rw [if_pos (by omega)] at hN
              have hst : (if (wrd r).1 ≠ 0 then ((wrd r).1, ((0, 0) : Int × Int), ([] : List Int)) else if 4294967296 ≤ (wrd r).2.1 then (2, (0, 0), []) else (0, (x, (wrd r).2.1), (wrd r).2.2)) = (2, (0, 0), []) := by rw [if_neg (by simp [h2]), if_pos h3]
              rw [hN, hst]
              exact ⟨fun h => absurd h (show ¬ ((2 : Int) = 0) by decide), fun _ => rfl⟩
            · rw [if_neg (by omega)] at hN
              have hst : (if (wrd r).1 ≠ 0 then ((wrd r).1, ((0, 0) : Int × Int), ([] : List Int)) else if 4294967296 ≤ (wrd r).2.1 then (2, (0, 0), []) else (0, (x, (wrd r).2.1), (wrd r).2.2)) = (0, (x, (wrd r).2.1), (wrd r).2.2) := by rw [if_neg (by simp [h2]), if_neg h3]
              rw [hN, hst]
              exact ⟨fun _ => rfl, fun h => absurd rfl h⟩
          · rw [if_pos h2] at hN
            have hst : (if (wrd r).1 ≠ 0 then ((wrd r).1, ((0, 0) : Int × Int), ([] : List Int)) else if 4294967296 ≤ (wrd r).2.1 then (2, (0, 0), []) else (0, (x, (wrd r).2.1), (wrd r).2.2)) = ((wrd r).1, (0, 0), []) := if_pos h2
            rw [hN, hst, if_pos h2]
            exact ⟨fun h => absurd h h2, fun _ => rfl⟩
        · simp only [if_neg hh]
          exact ⟨fun _ => rfl, fun h => absurd rfl h⟩
    · have hk := ih.2 h1
      have e2 : codR (k + 1) S = codR k S := if_pos h1
      rw [e2]
      refine ⟨fun h => absurd h h1, fun _ => ?_⟩
      rw [e1, hk]
      simp only
      rw [opF_e _ _ h1]
      simp only
      rw [argF_e _ _ _ h1]
theorem arrR_ok (S : List Int) (hb : Bytes S) (k : Nat) : OkA (arrR k S).2.1 := by
  by_cases h : (arrR k S).1 = 0
  · have h1 := (arrIt_R S hb k).1 h
    have h2 := arrIt_ok S hb 0 k
    rw [h1] at h2
    exact h2
  · rw [arrR_err k S h]
    intro x hx
    cases hx
theorem codR_ok (S : List Int) (hb : Bytes S) (k : Nat) : OkI (codR k S).2.1 := by
  by_cases h : (codR k S).1 = 0
  · have h1 := (codIt_R S hb k).1 h
    have h2 := codIt_ok S hb 0 k
    rw [h1] at h2
    exact h2
  · rw [codR_err k S h]
    intro x hx
    cases hx
theorem arraysR_ok (S : List Int) (hb : Bytes S) : (arraysR S).1 = 0 → OkA (arraysR S).2.1 ∧ Sub S (arraysR S).2.2 ∧ 0 ≤ (arraysR S).2.1.length ∧ (arraysR S).2.1.length ≤ 8 := by
  unfold arraysR
  by_cases h1 : (wrd S).1 = 0
  · rw [if_neg (by simp [h1])]
    by_cases h2 : 8 < (wrd S).2.1
    · rw [if_pos h2]; intro h; exact absurd h (show ¬ ((6 : Int) = 0) by decide)
    · rw [if_neg h2]
      intro h
      have hb2 := (show Sub S (wrd S).2.2 from wrd_sub S).bytes hb
      have hn := wrd_num S hb h1
      refine ⟨arrR_ok _ hb2 _, (show Sub S (wrd S).2.2 from wrd_sub S).trans (arrR_sub _ _), Nat.zero_le _, ?_⟩
      rw [arrR_len _ _ h]
      omega
  · rw [if_pos h1]; intro h; exact absurd h h1
theorem codeR_ok (S : List Int) (hb : Bytes S) : (codeR S).1 = 0 → OkI (codeR S).2.1 ∧ Sub S (codeR S).2.2 := by
  unfold codeR
  by_cases h1 : (wrd S).1 = 0
  · rw [if_neg (by simp [h1])]
    by_cases h2 : 1024 < (wrd S).2.1
    · rw [if_pos h2]; intro h; exact absurd h (show ¬ ((6 : Int) = 0) by decide)
    · rw [if_neg h2]
      intro h
      have hb2 := (show Sub S (wrd S).2.2 from wrd_sub S).bytes hb
      exact ⟨codR_ok _ hb2 _, (show Sub S (wrd S).2.2 from wrd_sub S).trans (codR_sub _ _)⟩
  · rw [if_pos h1]; intro h; exact absurd h h1
def s1F (S : List Int) : Int × List Int × Int := numF 8 6 S 0
def s2F (S : List Int) : List (Bool × Int) × List Int × Int := arrIt (s1F S).2.1 (s1F S).2.2 (s1F S).1.toNat
def s3F (S : List Int) : Int × List Int × Int := numF 9007199254740991 2 (s2F S).2.1 (s2F S).2.2
def s4F (S : List Int) : Int × List Int × Int := numF 1024 6 (s3F S).2.1 (s3F S).2.2
def s5F (S : List Int) : List (Int × Int) × List Int × Int := codIt (s4F S).2.1 (s4F S).2.2 (s4F S).1.toNat
theorem decG_eq (S : List Int) : decG S = ⟨if (s5F S).2.2 = 0 then formE (s2F S).1 (s3F S).1 (s5F S).1 else (s5F S).2.2, (s2F S).1, (s3F S).1, (s5F S).1, (s5F S).2.1⟩ := rfl
theorem decF_e5 (S : List Int) (e : Int) (he : e ≠ 0) (h : (s5F S).2.2 = e) : decF S = errD e := by
  have hg : (decG S).e = e := by rw [decG_eq]; show (if (s5F S).2.2 = 0 then _ else (s5F S).2.2) = e; rw [h, if_neg he]
  unfold decF
  rw [hg, if_pos he]
  rfl
theorem decF_e4 (S : List Int) (e : Int) (he : e ≠ 0) (h : (s4F S).2.2 = e) : decF S = errD e := decF_e5 S e he (by unfold s5F; rw [h]; exact codIt_e _ _ he _)
theorem decF_e3 (S : List Int) (e : Int) (he : e ≠ 0) (h : (s3F S).2.2 = e) : decF S = errD e := decF_e4 S e he (by unfold s4F; rw [h, numF_e _ _ _ _ he])
theorem decF_e2 (S : List Int) (e : Int) (he : e ≠ 0) (h : (s2F S).2.2 = e) : decF S = errD e := decF_e3 S e he (by unfold s3F; rw [h, numF_e _ _ _ _ he])
theorem decF_e1 (S : List Int) (e : Int) (he : e ≠ 0) (h : (s1F S).2.2 = e) : decF S = errD e := decF_e2 S e he (by unfold s2F; rw [h]; exact arrIt_e _ _ he _)
theorem decR_1 (S : List Int) (e : Int) (he : e ≠ 0) (h : (arraysR S).1 = e) : decR S = errD e := by
  unfold decR
  rw [h, if_pos he]
theorem decR_2 (S : List Int) {A : List (Bool × Int)} {T : List Int} (h : arraysR S = (0, A, T)) (h2 : (wrd T).1 ≠ 0) : decR S = errD (wrd T).1 := by
  unfold decR
  rw [h]
  show (if (0 : Int) ≠ 0 then _ else if (wrd T).1 ≠ 0 then _ else _) = _
  rw [if_neg (by simp), if_pos h2]
theorem decR_3 (S : List Int) {A : List (Bool × Int)} {T : List Int} (h : arraysR S = (0, A, T)) (h2 : (wrd T).1 = 0) (e : Int) (he : e ≠ 0) (h3 : (codeR (wrd T).2.2).1 = e) : decR S = errD e := by
  unfold decR
  rw [h]
  show (if (0 : Int) ≠ 0 then _ else if (wrd T).1 ≠ 0 then _ else if (codeR (wrd T).2.2).1 ≠ 0 then _ else _) = _
  rw [if_neg (by simp), if_neg (by simp [h2]), h3, if_pos he]
theorem decR_4 (S : List Int) {A : List (Bool × Int)} {T U : List Int} {C : List (Int × Int)} (h : arraysR S = (0, A, T)) (h2 : (wrd T).1 = 0) (h3 : codeR (wrd T).2.2 = (0, C, U)) :
    decR S = if formE A (wrd T).2.1 C ≠ 0 then errD (formE A (wrd T).2.1 C) else ⟨0, A, (wrd T).2.1, C, U⟩ := by
  unfold decR
  rw [h]
  show (if (0 : Int) ≠ 0 then _ else if (wrd T).1 ≠ 0 then _ else if (codeR (wrd T).2.2).1 ≠ 0 then _ else if formE A (wrd T).2.1 (codeR (wrd T).2.2).2.1 ≠ 0 then _ else _) = _
  rw [if_neg (by simp), if_neg (by simp [h2]), h3]
  show (if (0 : Int) ≠ 0 then _ else _) = _
  rw [if_neg (by simp)]
theorem dec_same (S : List Int) (hb : Bytes S) : decR S = decF S := by
  have h1 : s1F S = _ := numF_0 8 6 S
  by_cases a1 : (wrd S).1 = 0
  · rw [if_neg (by simp [a1])] at h1
    by_cases a2 : 8 < (wrd S).2.1
    · rw [if_pos a2] at h1
      have hA : arraysR S = (6, [], []) := by unfold arraysR; rw [if_neg (by simp [a1]), if_pos a2]
      rw [decR_1 S 6 (by decide) (by rw [hA]), decF_e1 S 6 (by decide) (by rw [h1])]
    · rw [if_neg a2] at h1
      have hA : arraysR S = arrR (wrd S).2.1.toNat (wrd S).2.2 := by unfold arraysR; rw [if_neg (by simp [a1]), if_neg a2]
      have h2 : s2F S = arrIt (wrd S).2.2 0 (wrd S).2.1.toNat := by unfold s2F; rw [h1]
      have hb2 := (show Sub S (wrd S).2.2 from wrd_sub S).bytes hb
      obtain ⟨i1, i2⟩ := arrIt_R (wrd S).2.2 hb2 (wrd S).2.1.toNat
      have hsub := arrR_sub (wrd S).2.1.toNat (wrd S).2.2
      rw [← hA] at i1 i2 hsub
      by_cases a3 : (arraysR S).1 = 0
      · obtain ⟨T3, hT3⟩ : ∃ T, arraysR S = T := ⟨_, rfl⟩
        rw [hT3] at i1 hsub a3
        obtain ⟨e, A, T⟩ := T3
        simp only at i1 hsub a3
        subst a3
        have h2' : s2F S = (A, T, 0) := by rw [h2]; exact i1 rfl
        have hbT := hsub.bytes hb2
        have h3 : s3F S = numF 9007199254740991 2 T 0 := by unfold s3F; rw [h2']
        rw [numF_0] at h3
        have hn := wrd_num T hbT
        by_cases a4 : (wrd T).1 = 0
        · rw [if_neg (by simp [a4]), if_neg (by have := hn a4; omega)] at h3
          have hb4 := (show Sub T (wrd T).2.2 from wrd_sub T).bytes hbT
          have h4 : s4F S = numF 1024 6 (wrd T).2.2 0 := by unfold s4F; rw [h3]
          rw [numF_0] at h4
          by_cases a5 : (wrd (wrd T).2.2).1 = 0
          · rw [if_neg (by simp [a5])] at h4
            by_cases a6 : 1024 < (wrd (wrd T).2.2).2.1
            · rw [if_pos a6] at h4
              have hC : codeR (wrd T).2.2 = (6, [], []) := by unfold codeR; rw [if_neg (by simp [a5]), if_pos a6]
              rw [decR_3 S hT3 a4 6 (by decide) (by rw [hC]), decF_e4 S 6 (by decide) (by rw [h4])]
            · rw [if_neg a6] at h4
              have hC : codeR (wrd T).2.2 = codR (wrd (wrd T).2.2).2.1.toNat (wrd (wrd T).2.2).2.2 := by unfold codeR; rw [if_neg (by simp [a5]), if_neg a6]
              have h5 : s5F S = codIt (wrd (wrd T).2.2).2.2 0 (wrd (wrd T).2.2).2.1.toNat := by unfold s5F; rw [h4]
              have hb5 := (show Sub (wrd T).2.2 (wrd (wrd T).2.2).2.2 from wrd_sub (wrd T).2.2).bytes hb4
              obtain ⟨j1, j2⟩ := codIt_R (wrd (wrd T).2.2).2.2 hb5 (wrd (wrd T).2.2).2.1.toNat
              rw [← hC] at j1 j2
              by_cases a7 : (codeR (wrd T).2.2).1 = 0
              · obtain ⟨Q, hQ⟩ : ∃ Q, codeR (wrd T).2.2 = Q := ⟨_, rfl⟩
                rw [hQ] at j1 a7
                obtain ⟨f, C, U⟩ := Q
                simp only at j1 a7
                subst a7
                have h5' : s5F S = (C, U, 0) := by rw [h5]; exact j1 rfl
                have hg : decG S = ⟨formE A (wrd T).2.1 C, A, (wrd T).2.1, C, U⟩ := by
                  rw [decG_eq, h5', h2', h3]
                  simp only [if_true]
                rw [decR_4 S hT3 a4 hQ]
                unfold decF
                rw [hg]
                by_cases a8 : formE A (wrd T).2.1 C = 0
                · simp only [a8, ne_eq, not_true, if_false]
                · simp only [ne_eq, a8, not_false_iff, if_true]
                  rfl
              · rw [decR_3 S hT3 a4 _ a7 rfl, decF_e5 S _ a7 (by rw [h5]; exact j2 a7)]
          · rw [if_pos a5] at h4
            have hC : codeR (wrd T).2.2 = ((wrd (wrd T).2.2).1, [], []) := by unfold codeR; rw [if_pos a5]
            rw [decR_3 S hT3 a4 _ a5 (by rw [hC]), decF_e4 S _ a5 (by rw [h4])]
        · rw [if_pos a4] at h3
          rw [decR_2 S hT3 a4, decF_e3 S _ a4 (by rw [h3])]
      · rw [decR_1 S _ a3 rfl, decF_e2 S _ a3 (by rw [h2]; exact i2 a3)]
  · rw [if_pos a1] at h1
    have hA : arraysR S = ((wrd S).1, [], []) := by unfold arraysR; rw [if_pos a1]
    rw [decR_1 S _ a1 (by rw [hA]), decF_e1 S _ a1 (by rw [h1])]
end Go.Proofs.YthjnchjfmbblfaaGreatDoor

/- The plain law: what was encoded is decoded; a beginning of an encoding is torn. -/
namespace Go.Proofs.YthjnchjfmbblfaaGreatDoor
open Go.RowKit
set_option linter.unusedVariables false

theorem head_tab : (List.range 8).all (fun k => (List.range (2 ^ (7 - k))).all fun h => decide (ones (256 - 2 ^ (8 - k) + (h : Int)) = k) && decide (first (256 - 2 ^ (8 - k) + (h : Int)) k = (h : Int))) = true := by decide +kernel
theorem whead_ones (n : Int) (h0 : 0 ≤ n) (h1 : n ≤ 9007199254740991) : ones (whead n) = fur n ∧ first (whead n) (fur n) = n / 2 ^ (8 * fur n) := by
  have h7 := fur_7 n h0 h1
  have hw := whigh n h0 h1
  unfold whead
  obtain ⟨k, hk⟩ : ∃ k, fur n = k := ⟨_, rfl⟩
  rw [hk] at h7 hw ⊢
  obtain ⟨x, hx⟩ := Int.eq_ofNat_of_zero_le hw.1
  rw [hx] at hw ⊢
  have hx2 : x < 2 ^ (7 - k) := by
    have := hw.2
    have e : ((2 ^ (7 - k) : Nat) : Int) = (2 : Int) ^ (7 - k) := by simp
    omega
  have h1 := List.all_eq_true.1 head_tab k (by simp; omega)
  have h2 := List.all_eq_true.1 h1 x (by simpa using hx2)
  simp only [Bool.and_eq_true, decide_eq_true_eq] at h2
  exact h2
theorem grow_tail (n : Int) (k : Nat) : grow (n / 2 ^ (8 * k)) (wtail n k) = n := by
  induction k with
  | zero => simp [wtail, grow]
  | succ k ih =>
    have e : n / 2 ^ (8 * (k + 1)) = n / 2 ^ (8 * k) / 256 := by
      rw [show 8 * (k + 1) = 8 * k + 8 by omega, Int.pow_add, Int.ediv_ediv_of_nonneg (Int.pow_nonneg (by decide))]
      rfl
    show grow (256 * (n / 2 ^ (8 * (k + 1))) + n / 2 ^ (8 * k) % 256) (wtail n k) = n
    rw [e, show 256 * (n / 2 ^ (8 * k) / 256) + n / 2 ^ (8 * k) % 256 = n / 2 ^ (8 * k) by omega]
    exact ih
theorem wrd_enc (n : Int) (h0 : 0 ≤ n) (h1 : n ≤ 9007199254740991) (more : List Int) : wrd (wenc n ++ more) = (0, n, more) := by
  obtain ⟨o1, o2⟩ := whead_ones n h0 h1
  have h7 := fur_7 n h0 h1
  have hl := wtail_len n (fur n)
  have e : wenc n ++ more = whead n :: (wtail n (fur n) ++ more) := rfl
  have ht : (wtail n (fur n) ++ more).take (fur n) = wtail n (fur n) := by rw [List.take_append_of_le_length (by omega), List.take_of_length_le (by omega)]
  have hd : (wtail n (fur n) ++ more).drop (fur n) = more := by rw [List.drop_append_of_le_length (by omega), List.drop_of_length_le (by omega)]; rfl
  rw [e, wrd_good (whead n) _ (fur n) o1 h7 (by rw [List.length_append]; omega) n (by rw [ht, o2]; exact grow_tail n (fur n)) (by omega), hd]
theorem wrd_torn_enc (n : Int) (h0 : 0 ≤ n) (h1 : n ≤ 9007199254740991) (i : Nat) (hi : i < (wenc n).length) : wrd ((wenc n).take i) = (9, 0, []) := by
  obtain ⟨o1, -⟩ := whead_ones n h0 h1
  have h7 := fur_7 n h0 h1
  have hl := wtail_len n (fur n)
  have hll := wenc_len n
  cases i with
  | zero => rfl
  | succ i =>
    have e : (wenc n).take (i + 1) = whead n :: (wtail n (fur n)).take i := rfl
    rw [e]
    refine wrd_torn (whead n) _ (by omega) ?_
    rw [o1, List.length_take]
    omega
theorem take_cut (a b : List Int) (i : Nat) : (i < a.length ∧ (a ++ b).take i = a.take i) ∨ (a.length ≤ i ∧ (a ++ b).take i = a ++ b.take (i - a.length)) := by
  by_cases h : i < a.length
  · exact Or.inl ⟨h, List.take_append_of_le_length (by omega)⟩
  · refine Or.inr ⟨by omega, ?_⟩
    rw [List.take_append, List.take_of_length_le (by omega)]

/-! The arrays. -/
theorem arrN_bd {a : Bool × Int} (h : 1 ≤ a.2 ∧ a.2 ≤ 65536) : 0 ≤ arrN a ∧ arrN a ≤ 9007199254740991 := by unfold arrN; split <;> omega
theorem arrN_back (a : Bool × Int) : (arrN a % 2 == 1, arrN a / 2) = a := by
  obtain ⟨b, s⟩ := a
  cases b
  · show ((2 * s + 0) % 2 == 1, (2 * s + 0) / 2) = (false, s)
    rw [show (2 * s + 0) % 2 = 0 by omega, show (2 * s + 0) / 2 = s by omega]
    rfl
  · show ((2 * s + 1) % 2 == 1, (2 * s + 1) / 2) = (true, s)
    rw [show (2 * s + 1) % 2 = 1 by omega, show (2 * s + 1) / 2 = s by omega]
    rfl
theorem encA_cons (a : Bool × Int) (l : List (Bool × Int)) : encA (a :: l) = wenc (wnum (arrN a)) ++ encA l := by simp [encA]
theorem arrR_step (k : Nat) (S : List Int) (A : List (Bool × Int)) (T : List Int) (h : arrR k S = (0, A, T)) : arrR (k + 1) S = if (wrd T).1 ≠ 0 then ((wrd T).1, [], []) else (0, A ++ [((wrd T).2.1 % 2 == 1, (wrd T).2.1 / 2)], (wrd T).2.2) := by
  show (if (arrR k S).1 ≠ 0 then arrR k S else if (wrd (arrR k S).2.2).1 ≠ 0 then ((wrd (arrR k S).2.2).1, [], []) else (0, (arrR k S).2.1 ++ [((wrd (arrR k S).2.2).2.1 % 2 == 1, (wrd (arrR k S).2.2).2.1 / 2)], (wrd (arrR k S).2.2).2.2)) = _
  rw [h]
  rfl
theorem arrR_enc (A : List (Bool × Int)) (hA : ∀ x ∈ A, 1 ≤ x.2 ∧ x.2 ≤ 65536) (rest : List Int) (k : Nat) (hk : k ≤ A.length) : arrR k (encA A ++ rest) = (0, A.take k, encA (A.drop k) ++ rest) := by
  induction k with
  | zero => rfl
  | succ k ih =>
    have ih := ih (by omega)
    obtain ⟨x, hx, hxm⟩ := at_lt A (k := k) (by omega)
    have hb := arrN_bd (hA x hxm)
    rw [arrR_step k _ _ _ ih, drop_at hx, encA_cons, List.append_assoc, wnum_id hb.1 hb.2, wrd_enc _ hb.1 hb.2]
    rw [if_neg (by simp)]
    simp only [arrN_back]
    rw [List.take_succ_eq_append_getElem (by omega)]
    rw [(List.getElem?_eq_some_iff.1 hx).2]
theorem arrR_torn (A : List (Bool × Int)) (hA : ∀ x ∈ A, 1 ≤ x.2 ∧ x.2 ≤ 65536) (j : Nat) (k : Nat) (hk : k ≤ A.length) :
    (arrR k ((encA A).take j)).1 = 9 ∨ ((encA (A.take k)).length ≤ j ∧ arrR k ((encA A).take j) = (0, A.take k, (encA (A.drop k)).take (j - (encA (A.take k)).length))) := by
  induction k with
  | zero => right; exact ⟨Nat.zero_le _, rfl⟩
  | succ k ih =>
    rcases ih (by omega) with h | ⟨hl, h⟩
    · left
      rw [arrR_stuck k _ (by rw [h]; decide) (k + 1) (by omega)]
      exact h
    · obtain ⟨x, hx, hxm⟩ := at_lt A (k := k) (by omega)
      have hb := arrN_bd (hA x hxm)
      have htk : A.take (k + 1) = A.take k ++ [x] := by
        rw [List.take_succ_eq_append_getElem (by omega)]
        rw [(List.getElem?_eq_some_iff.1 hx).2]
      have hel : (encA (A.take (k + 1))).length = (encA (A.take k)).length + (wenc (arrN x)).length := by rw [htk, encA_snoc, List.length_append, wnum_id hb.1 hb.2]
      have hs := arrR_step k _ _ _ h
      rw [drop_at hx, encA_cons, wnum_id hb.1 hb.2] at hs
      rcases take_cut (wenc (arrN x)) (encA (A.drop (k + 1))) (j - (encA (A.take k)).length) with ⟨h1, h2⟩ | ⟨h1, h2⟩
      · left
        rw [hs, h2, wrd_torn_enc _ hb.1 hb.2 _ h1]
        rfl
      · right
        refine ⟨by omega, ?_⟩
        rw [hs, h2, wrd_enc _ hb.1 hb.2, if_neg (by simp)]
        simp only [arrN_back]
        rw [htk, ← htk, hel, htk, show j - ((encA (A.take k)).length + (wenc (arrN x)).length) = j - (encA (A.take k)).length - (wenc (arrN x)).length by omega]

/-! The code. -/
theorem lim_tab : (List.range 36).all (fun k => (opAt (k : Int)).2.2.2.2 || decide ((opAt (k : Int)).2.2.2.1 = 1)) = true := by decide +kernel
theorem chk_noarg {op arg : Int} (h : chkI op arg = 0) (h0 : 0 ≤ arg) (hn : (opAt op).2.2.2.2 = false) : arg = 0 := by
  have hr := chk_ok h
  obtain ⟨k, rfl⟩ := Int.eq_ofNat_of_zero_le hr.1
  have ht := List.all_eq_true.1 lim_tab k (by simp; omega)
  rw [hn] at ht
  simp only [Bool.false_or, decide_eq_true_eq] at ht
  unfold chkI at h
  by_cases h1 : isOp (k : Int) = false
  · rw [if_pos h1] at h; cases h
  · rw [if_neg h1, ht] at h
    by_cases h2 : 1 ≤ arg
    · rw [if_pos h2] at h; cases h
    · omega
def OkC (l : List (Int × Int)) : Prop := ∀ x ∈ l, chkI x.1 x.2 = 0 ∧ 0 ≤ x.2 ∧ x.2 ≤ 4294967295
theorem encI_op {x : Int × Int} (h : chkI x.1 x.2 = 0) : encI x = x.1 :: (if (opAt x.1).2.2.2.2 then wenc x.2 else []) := by
  have := chk_ok h
  unfold encI
  rw [Int.emod_eq_of_lt this.1 (by omega)]
theorem stepI_enc (x : Int × Int) (h : chkI x.1 x.2 = 0) (h0 : 0 ≤ x.2) (h1 : x.2 ≤ 4294967295) (T : List Int) : stepI (encI x ++ T) = (0, x, T) := by
  rw [encI_op h, List.cons_append, stepI_cons]
  by_cases hh : (opAt x.1).2.2.2.2 = true
  · rw [if_pos hh, if_pos hh, wrd_enc x.2 h0 (by omega), if_neg (by simp), if_neg (by simp only; omega)]
  · have hf : (opAt x.1).2.2.2.2 = false := by simpa using hh
    rw [if_neg hh, if_neg hh, ← chk_noarg h h0 hf]
    rfl
theorem stepI_torn (x : Int × Int) (h : chkI x.1 x.2 = 0) (h0 : 0 ≤ x.2) (h1 : x.2 ≤ 4294967295) (i : Nat) (hi : i < (encI x).length) : (stepI ((encI x).take i)).1 = 9 := by
  rw [encI_op h] at hi ⊢
  cases i with
  | zero => rfl
  | succ i =>
    rw [List.take_succ_cons, stepI_cons]
    by_cases hh : (opAt x.1).2.2.2.2 = true
    · rw [if_pos hh] at hi ⊢
      rw [if_pos hh]
      have ht := wrd_torn_enc x.2 h0 (by omega) i (by simpa using hi)
      rw [ht, if_pos (by decide)]
    · rw [if_neg hh] at hi
      simp at hi
theorem encC_cons (a : Int × Int) (l : List (Int × Int)) : encC (a :: l) = encI a ++ encC l := by simp [encC]
theorem codR_step (k : Nat) (S : List Int) (C : List (Int × Int)) (T : List Int) (h : codR k S = (0, C, T)) : codR (k + 1) S = if (stepI T).1 ≠ 0 then ((stepI T).1, [], []) else (0, C ++ [(stepI T).2.1], (stepI T).2.2) := by
  show (if (codR k S).1 ≠ 0 then codR k S else if (stepI (codR k S).2.2).1 ≠ 0 then ((stepI (codR k S).2.2).1, [], []) else (0, (codR k S).2.1 ++ [(stepI (codR k S).2.2).2.1], (stepI (codR k S).2.2).2.2)) = _
  rw [h]
  rfl
theorem codR_enc (C : List (Int × Int)) (hC : OkC C) (rest : List Int) (k : Nat) (hk : k ≤ C.length) : codR k (encC C ++ rest) = (0, C.take k, encC (C.drop k) ++ rest) := by
  induction k with
  | zero => rfl
  | succ k ih =>
    have ih := ih (by omega)
    obtain ⟨x, hx, hxm⟩ := at_lt C (k := k) (by omega)
    obtain ⟨c1, c2, c3⟩ := hC x hxm
    rw [codR_step k _ _ _ ih, drop_at hx, encC_cons, List.append_assoc, stepI_enc x c1 c2 c3, if_neg (by simp)]
    rw [List.take_succ_eq_append_getElem (by omega)]
    rw [(List.getElem?_eq_some_iff.1 hx).2]
theorem codR_torn (C : List (Int × Int)) (hC : OkC C) (j : Nat) (k : Nat) (hk : k ≤ C.length) :
    (codR k ((encC C).take j)).1 = 9 ∨ ((encC (C.take k)).length ≤ j ∧ codR k ((encC C).take j) = (0, C.take k, (encC (C.drop k)).take (j - (encC (C.take k)).length))) := by
  induction k with
  | zero => right; exact ⟨Nat.zero_le _, rfl⟩
  | succ k ih =>
    rcases ih (by omega) with h | ⟨hl, h⟩
    · left
      rw [codR_stuck k _ (by rw [h]; decide) (k + 1) (by omega)]
      exact h
    · obtain ⟨x, hx, hxm⟩ := at_lt C (k := k) (by omega)
      obtain ⟨c1, c2, c3⟩ := hC x hxm
      have htk : C.take (k + 1) = C.take k ++ [x] := by
        rw [List.take_succ_eq_append_getElem (by omega)]
        rw [(List.getElem?_eq_some_iff.1 hx).2]
      have hel : (encC (C.take (k + 1))).length = (encC (C.take k)).length + (encI x).length := by rw [htk, encC_snoc, List.length_append]
      have hs := codR_step k _ _ _ h
      rw [drop_at hx, encC_cons] at hs
      rcases take_cut (encI x) (encC (C.drop (k + 1))) (j - (encC (C.take k)).length) with ⟨h1, h2⟩ | ⟨h1, h2⟩
      · left
        have ht := stepI_torn x c1 c2 c3 _ h1
        rw [hs, h2, ht, if_pos (by decide)]
      · right
        refine ⟨by omega, ?_⟩
        rw [hs, h2, stepI_enc x c1 c2 c3, if_neg (by simp)]
        rw [htk, ← htk, hel, htk, show j - ((encC (C.take k)).length + (encI x).length) = j - (encC (C.take k)).length - (encI x).length by omega]
end Go.Proofs.YthjnchjfmbblfaaGreatDoor

/- The plain law of InstructionReturns. -/
namespace Go.Proofs.YthjnchjfmbblfaaGreatDoor
open Go.RowKit
set_option linter.unusedVariables false

theorem arraysR_enc (A : List (Bool × Int)) (hl : A.length ≤ 8) (hA : ∀ x ∈ A, 1 ≤ x.2 ∧ x.2 ≤ 65536) (rest : List Int) : arraysR (wenc A.length ++ (encA A ++ rest)) = (0, A, rest) := by
  unfold arraysR
  rw [wrd_enc _ (by omega) (by omega), if_neg (by simp), if_neg (by simp only; omega)]
  simp only [Int.toNat_natCast]
  rw [arrR_enc A hA rest A.length (Nat.le_refl _), List.take_of_length_le (Nat.le_refl _), List.drop_of_length_le (Nat.le_refl _)]
  rfl
theorem codeR_enc (C : List (Int × Int)) (hl : C.length ≤ 1024) (hC : OkC C) (rest : List Int) : codeR (wenc C.length ++ (encC C ++ rest)) = (0, C, rest) := by
  unfold codeR
  rw [wrd_enc _ (by omega) (by omega), if_neg (by simp), if_neg (by simp only; omega)]
  simp only [Int.toNat_natCast]
  rw [codR_enc C hC rest C.length (Nat.le_refl _), List.take_of_length_le (Nat.le_refl _), List.drop_of_length_le (Nat.le_refl _)]
  rfl
theorem okC_of {A : List (Bool × Int)} {L : Int} {C : List (Int × Int)} (h : formE A L C = 0) (hC : OkI C) : OkC C := fun x hx => ⟨codE_ok C (form_ok h).2.2.2.2.2.1 x hx, (hC x hx).2⟩
theorem prog_split (A : List (Bool × Int)) (L : Int) (C : List (Int × Int)) (more : List Int) : progB A L C ++ more = wenc A.length ++ (encA A ++ (wenc L ++ (wenc C.length ++ (encC C ++ more)))) := by
  unfold progB
  simp only [List.append_assoc]
theorem dec_enc (A : List (Bool × Int)) (L : Int) (C : List (Int × Int)) (h : formE A L C = 0) (hC : OkI C) (more : List Int) : decR (progB A L C ++ more) = ⟨0, A, L, C, more⟩ := by
  obtain ⟨k1, k2, k3, k4, k5, k6, k7⟩ := form_ok h
  rw [prog_split]
  have hA := arraysR_enc A k1 k2 (wenc L ++ (wenc C.length ++ (encC C ++ more)))
  have hw := wrd_enc L k3 (by omega) (wenc C.length ++ (encC C ++ more))
  have hc := codeR_enc C k5 (okC_of h hC) more
  have := decR_4 _ hA (by rw [hw]) (show codeR (wrd (wenc L ++ (wenc C.length ++ (encC C ++ more)))).2.2 = (0, C, more) by rw [hw]; exact hc)
  rw [this, hw]
  simp only
  rw [if_neg (by simp [h])]
theorem arraysR_wtorn (S : List Int) (h : wrd S = (9, 0, [])) : (arraysR S).1 = 9 := by
  unfold arraysR
  rw [h, if_pos (by decide)]
theorem codeR_wtorn (S : List Int) (h : wrd S = (9, 0, [])) : (codeR S).1 = 9 := by
  unfold codeR
  rw [h, if_pos (by decide)]
/-- A beginning of an encoding is torn. -/
theorem dec_torn (A : List (Bool × Int)) (L : Int) (C : List (Int × Int)) (h : formE A L C = 0) (hC : OkI C) (i : Nat) (hi : i < (progB A L C).length) : decR ((progB A L C).take i) = errD 9 := by
  obtain ⟨k1, k2, k3, k4, k5, k6, k7⟩ := form_ok h
  have hokC := okC_of h hC
  have e : progB A L C = wenc A.length ++ (encA A ++ (wenc L ++ (wenc C.length ++ encC C))) := by
    have := prog_split A L C []
    simpa using this
  have hlen : (progB A L C).length = (wenc A.length).length + ((encA A).length + ((wenc L).length + ((wenc C.length).length + (encC C).length))) := by rw [e]; simp only [List.length_append]
  rw [e]
  rcases take_cut (wenc A.length) (encA A ++ (wenc L ++ (wenc C.length ++ encC C))) i with ⟨h1, h2⟩ | ⟨h1, h2⟩
  · rw [h2]
    exact decR_1 _ 9 (by decide) (arraysR_wtorn _ (wrd_torn_enc _ (by omega) (by omega) _ h1))
  · rw [h2]
    have hw1 := fun S => wrd_enc (A.length : Int) (by omega) (by omega) S
    rcases take_cut (encA A) (wenc L ++ (wenc C.length ++ encC C)) (i - (wenc A.length).length) with ⟨g1, g2⟩ | ⟨g1, g2⟩
    · rw [g2]
      refine decR_1 _ 9 (by decide) ?_
      unfold arraysR
      rw [hw1, if_neg (by simp), if_neg (by simp only; omega)]
      simp only [Int.toNat_natCast]
      rcases arrR_torn A k2 (i - (wenc A.length).length) A.length (Nat.le_refl _) with ht | ⟨ht, -⟩
      · exact ht
      · rw [List.take_of_length_le (Nat.le_refl _)] at ht
        omega
    · rw [g2]
      have hA := arraysR_enc A k1 k2 ((wenc L ++ (wenc C.length ++ encC C)).take (i - (wenc A.length).length - (encA A).length))
      rcases take_cut (wenc L) (wenc C.length ++ encC C) (i - (wenc A.length).length - (encA A).length) with ⟨f1, f2⟩ | ⟨f1, f2⟩
      · rw [f2] at hA ⊢
        have ht := wrd_torn_enc L k3 (by omega) _ f1
        have := decR_2 _ hA (by rw [ht]; decide)
        rw [this, ht]
      · rw [f2] at hA ⊢
        have hw2 := wrd_enc L k3 (by omega) ((wenc C.length ++ encC C).take (i - (wenc A.length).length - (encA A).length - (wenc L).length))
        refine decR_3 _ hA (by rw [hw2]) 9 (by decide) ?_
        rw [hw2]
        rcases take_cut (wenc C.length) (encC C) (i - (wenc A.length).length - (encA A).length - (wenc L).length) with ⟨q1, q2⟩ | ⟨q1, q2⟩
        · rw [q2]
          exact codeR_wtorn _ (wrd_torn_enc _ (by omega) (by omega) _ q1)
        · rw [q2]
          unfold codeR
          simp only
          rw [wrd_enc (C.length : Int) (by omega) (by omega), if_neg (by simp), if_neg (by simp only; omega)]
          simp only [Int.toNat_natCast]
          rcases codR_torn C hokC (i - (wenc A.length).length - (encA A).length - (wenc L).length - (wenc C.length).length) C.length (Nat.le_refl _) with ht | ⟨ht, -⟩
          · exact ht
          · rw [List.take_of_length_le (Nat.le_refl _)] at ht
            omega
theorem bytes_append {a b : List Int} (ha : Bytes a) (hb : Bytes b) : Bytes (a ++ b) := fun x hx => by
  rcases List.mem_append.1 hx with h | h
  · exact ha x h
  · exact hb x h
theorem wtail_bytes (n : Int) (k : Nat) : Bytes (wtail n k) := by
  induction k with
  | zero => intro x hx; cases hx
  | succ k ih =>
    intro x hx
    rcases List.mem_cons.1 hx with rfl | hx
    · omega
    · exact ih x hx
theorem wenc_bytes (n : Int) (h0 : 0 ≤ n) (h1 : n ≤ 9007199254740991) : Bytes (wenc n) := by
  have h7 := fur_7 n h0 h1
  have hw := whigh n h0 h1
  have hp : (2 : Int) ^ (8 - fur n) = 2 * 2 ^ (7 - fur n) := by rw [show 8 - fur n = 7 - fur n + 1 by omega, Int.pow_succ, Int.mul_comm]
  have hp8 : (2 : Int) ^ (8 - fur n) ≤ 256 := by
    have e : (2 : Int) ^ 8 = 256 := by decide
    rw [← e]
    exact_mod_cast Nat.pow_le_pow_right (by decide : 0 < 2) (by omega)
  intro x hx
  rcases List.mem_cons.1 hx with rfl | hx
  · unfold whead
    rw [hp] at hp8 ⊢
    omega
  · exact wtail_bytes n _ x hx
theorem prog_bytes (A : List (Bool × Int)) (L : Int) (C : List (Int × Int)) (h : formE A L C = 0) (hC : OkI C) : Bytes (progB A L C) := by
  obtain ⟨k1, k2, k3, k4, k5, k6, k7⟩ := form_ok h
  have hokC := okC_of h hC
  have hA : Bytes (encA A) := by
    intro x hx
    obtain ⟨a, ha, hx⟩ := List.mem_flatMap.1 hx
    exact wenc_bytes _ (wnum_bd _).1 (wnum_bd _).2 x hx
  have hCC : Bytes (encC C) := by
    intro x hx
    obtain ⟨a, ha, hx⟩ := List.mem_flatMap.1 hx
    obtain ⟨c1, c2, c3⟩ := hokC a ha
    have hr := chk_ok c1
    rw [encI_op c1] at hx
    rcases List.mem_cons.1 hx with rfl | hx
    · omega
    · split at hx
      · exact wenc_bytes _ c2 (by omega) x hx
      · cases hx
  unfold progB
  exact bytes_append (bytes_append (bytes_append (bytes_append (wenc_bytes _ (by omega) (by omega)) hA) (wenc_bytes _ k3 (by omega))) (wenc_bytes _ (by omega) (by omega))) hCC
theorem prog_len (A : List (Bool × Int)) (L : Int) (C : List (Int × Int)) (h : formE A L C = 0) (hC : OkI C) : 1 ≤ (progB A L C).length ∧ (progB A L C).length ≤ 20000 := by
  obtain ⟨k1, k2, k3, k4, k5, k6, k7⟩ := form_ok h
  have e1 := wenc_8 (A.length : Int) (by omega) (by omega)
  have e2 := encA_len A
  have e3 := wenc_8 L k3 (by omega)
  have e4 := wenc_8 (C.length : Int) (by omega) (by omega)
  have e5 := encC_len C (fun x hx => (hC x hx).2)
  have e6 := wenc_len (A.length : Int)
  unfold progB
  simp only [List.length_append]
  omega
end Go.Proofs.YthjnchjfmbblfaaGreatDoor

/- Decoding is canonical: what is decoded is the encoding, up to the rest. -/
namespace Go.Proofs.YthjnchjfmbblfaaGreatDoor
open Go.RowKit
set_option linter.unusedVariables false

theorem grow_back (l : List Int) (hl : Bytes l) : ∀ a, grow a l / 2 ^ (8 * l.length) = a ∧ wtail (grow a l) l.length = l := by
  induction l with
  | nil => intro a; exact ⟨by simp [grow], rfl⟩
  | cons b l ih =>
    intro a
    have hb := hl b List.mem_cons_self
    obtain ⟨h1, h2⟩ := ih (fun x hx => hl x (List.mem_cons_of_mem _ hx)) (256 * a + b)
    have e : grow a (b :: l) = grow (256 * a + b) l := rfl
    rw [e, List.length_cons]
    refine ⟨?_, ?_⟩
    · rw [show 8 * (l.length + 1) = 8 * l.length + 8 by omega, Int.pow_add, ← Int.ediv_ediv_of_nonneg (Int.pow_nonneg (by decide)), h1]
      show (256 * a + b) / 256 = a
      omega
    · show grow (256 * a + b) l / 2 ^ (8 * l.length) % 256 :: wtail (grow (256 * a + b) l) l.length = b :: l
      rw [h1, h2, show (256 * a + b) % 256 = b by omega]
theorem head_tab2 : (List.range 256).all (fun x => decide (7 < ones (x : Int)) || (decide (256 - 2 ^ (8 - ones (x : Int)) + first (x : Int) (ones (x : Int)) = (x : Int)) && decide (0 ≤ first (x : Int) (ones (x : Int))))) = true := by decide +kernel
theorem head_back (x : Int) (h0 : 0 ≤ x) (h1 : x ≤ 255) (h7 : ones x ≤ 7) : 256 - 2 ^ (8 - ones x) + first x (ones x) = x ∧ 0 ≤ first x (ones x) := by
  obtain ⟨n, rfl⟩ := Int.eq_ofNat_of_zero_le h0
  have h := List.all_eq_true.1 head_tab2 n (by simp; omega)
  simp only [Bool.or_eq_true, Bool.and_eq_true, decide_eq_true_eq] at h
  rcases h with h | h
  · omega
  · exact h
theorem wrd_back (S : List Int) (hb : Bytes S) (h : (wrd S).1 = 0) : S = wenc (wrd S).2.1 ++ (wrd S).2.2 ∧ 0 ≤ (wrd S).2.1 ∧ (wrd S).2.1 ≤ 9007199254740991 ∧ Bytes (wrd S).2.2 := by
  cases S with
  | nil => exact absurd h (by decide)
  | cons x r =>
    have hx := hb x List.mem_cons_self
    rw [wrd] at h ⊢
    by_cases c1 : 7 < ones x
    · rw [if_pos c1] at h; exact absurd h (by decide)
    · rw [if_neg c1] at h ⊢
      by_cases c2 : r.length < ones x
      · rw [if_pos c2] at h; exact absurd h (by decide)
      · rw [if_neg c2] at h ⊢
        by_cases c3 : 9007199254740991 < grow (first x (ones x)) (r.take (ones x)) ∨ fur (grow (first x (ones x)) (r.take (ones x))) ≠ ones x
        · simp only [if_pos c3] at h; exact absurd h (by decide)
        · simp only [if_neg c3]
          simp only [not_or, Int.not_lt, ne_eq, Decidable.not_not] at c3
          obtain ⟨c3, c4⟩ := c3
          have hr : Bytes r := fun y hy => hb y (List.mem_cons_of_mem _ hy)
          have ht : Bytes (r.take (ones x)) := fun y hy => hr y (List.mem_of_mem_take hy)
          have hl : (r.take (ones x)).length = ones x := by rw [List.length_take]; omega
          obtain ⟨g1, g2⟩ := grow_back _ ht (first x (ones x))
          rw [hl] at g1 g2
          obtain ⟨k1, k2⟩ := head_back x hx.1 hx.2 (by omega)
          refine ⟨?_, (grow_bd _ _ ht (first x (ones x) + 1) k2 (by omega)).1, c3, fun y hy => hr y (List.mem_of_mem_drop hy)⟩
          rw [wenc, whead, c4, g1, g2, k1, List.cons_append, List.take_append_drop]
theorem stepI_back (S : List Int) (hb : Bytes S) (h : (stepI S).1 = 0) : S = encI (stepI S).2.1 ++ (stepI S).2.2 ∧ Bytes (stepI S).2.2 := by
  cases S with
  | nil => exact absurd h (by decide)
  | cons x r =>
    have hx := hb x List.mem_cons_self
    have hr : Bytes r := fun y hy => hb y (List.mem_cons_of_mem _ hy)
    rw [stepI_cons] at h ⊢
    by_cases c1 : (opAt x).2.2.2.2 = true
    · rw [if_pos c1] at h ⊢
      by_cases c2 : (wrd r).1 ≠ 0
      · rw [if_pos c2] at h; exact absurd h c2
      · rw [if_neg c2] at h ⊢
        by_cases c3 : 4294967296 ≤ (wrd r).2.1
        · rw [if_pos c3] at h; exact absurd h (by decide)
        · rw [if_neg c3]
          obtain ⟨w1, -, -, w4⟩ := wrd_back r hr (by omega)
          refine ⟨?_, w4⟩
          show x :: r = encI (x, (wrd r).2.1) ++ (wrd r).2.2
          rw [encI, if_pos c1, show (x, (wrd r).2.1).1 % 256 = x by show x % 256 = x; omega, List.cons_append, ← w1]
    · rw [if_neg c1]
      refine ⟨?_, hr⟩
      show x :: r = encI (x, 0) ++ r
      rw [encI, if_neg c1, show (x, (0 : Int)).1 % 256 = x by show x % 256 = x; omega]
      rfl
theorem arrR_back (S : List Int) (hb : Bytes S) (k : Nat) : (arrR k S).1 = 0 → S = encA (arrR k S).2.1 ++ (arrR k S).2.2 ∧ Bytes (arrR k S).2.2 ∧ (arrR k S).2.1.length = k := by
  induction k with
  | zero => intro _; exact ⟨rfl, hb, rfl⟩
  | succ k ih =>
    intro h
    rw [arrR] at h ⊢
    by_cases c1 : (arrR k S).1 ≠ 0
    · rw [if_pos c1] at h; exact absurd h c1
    · rw [if_neg c1] at h ⊢
      obtain ⟨i1, i2, i3⟩ := ih (by omega)
      by_cases c2 : (wrd (arrR k S).2.2).1 ≠ 0
      · rw [if_pos c2] at h; exact absurd h c2
      · rw [if_neg c2]
        obtain ⟨w1, w2, w3, w4⟩ := wrd_back _ i2 (by omega)
        refine ⟨?_, w4, by simp [i3]⟩
        show S = encA ((arrR k S).2.1 ++ [((wrd (arrR k S).2.2).2.1 % 2 == 1, (wrd (arrR k S).2.2).2.1 / 2)]) ++ (wrd (arrR k S).2.2).2.2
        have e : wnum (arrN ((wrd (arrR k S).2.2).2.1 % 2 == 1, (wrd (arrR k S).2.2).2.1 / 2)) = (wrd (arrR k S).2.2).2.1 := by
          generalize (wrd (arrR k S).2.2).2.1 = n at w2 w3
          have : arrN (n % 2 == 1, n / 2) = n := by
            unfold arrN
            by_cases h2 : n % 2 = 1
            · simp [h2]; omega
            · simp [h2]; omega
          rw [this]
          exact wnum_id w2 w3
        rw [encA_snoc, e, List.append_assoc, ← w1]
        exact i1
theorem codR_back (S : List Int) (hb : Bytes S) (k : Nat) : (codR k S).1 = 0 → S = encC (codR k S).2.1 ++ (codR k S).2.2 ∧ Bytes (codR k S).2.2 ∧ (codR k S).2.1.length = k := by
  induction k with
  | zero => intro _; exact ⟨rfl, hb, rfl⟩
  | succ k ih =>
    intro h
    rw [codR] at h ⊢
    by_cases c1 : (codR k S).1 ≠ 0
    · rw [if_pos c1] at h; exact absurd h c1
    · rw [if_neg c1] at h ⊢
      obtain ⟨i1, i2, i3⟩ := ih (by omega)
      by_cases c2 : (stepI (codR k S).2.2).1 ≠ 0
      · rw [if_pos c2] at h; exact absurd h c2
      · rw [if_neg c2]
        obtain ⟨w1, w2⟩ := stepI_back _ i2 (by omega)
        refine ⟨?_, w2, by simp [i3]⟩
        show S = encC ((codR k S).2.1 ++ [(stepI (codR k S).2.2).2.1]) ++ (stepI (codR k S).2.2).2.2
        rw [encC_snoc, List.append_assoc, ← w1]
        exact i1
/-- What is decoded is the encoding of the program, up to the rest; the program is in form. -/
theorem dec_back (S : List Int) (hb : Bytes S) (h : (decR S).e = 0) : S = progB (decR S).A (decR S).L (decR S).C ++ (decR S).r ∧ formE (decR S).A (decR S).L (decR S).C = 0 := by
  unfold decR at h ⊢
  by_cases c1 : (arraysR S).1 ≠ 0
  · rw [if_pos c1] at h; exact absurd h c1
  · rw [if_neg c1] at h ⊢
    by_cases c2 : (wrd (arraysR S).2.2).1 ≠ 0
    · rw [if_pos c2] at h; exact absurd h c2
    · rw [if_neg c2] at h ⊢
      by_cases c3 : (codeR (wrd (arraysR S).2.2).2.2).1 ≠ 0
      · rw [if_pos c3] at h; exact absurd h c3
      · rw [if_neg c3] at h ⊢
        by_cases c4 : formE (arraysR S).2.1 (wrd (arraysR S).2.2).2.1 (codeR (wrd (arraysR S).2.2).2.2).2.1 ≠ 0
        · rw [if_pos c4] at h; exact absurd h c4
        · rw [if_neg c4]
          refine ⟨?_, Decidable.not_not.1 c4⟩
          show S = progB (arraysR S).2.1 (wrd (arraysR S).2.2).2.1 (codeR (wrd (arraysR S).2.2).2.2).2.1 ++ (codeR (wrd (arraysR S).2.2).2.2).2.2
          have a0 : (arraysR S).1 = 0 := by omega
          have hA : S = wenc ((arraysR S).2.1.length : Int) ++ (encA (arraysR S).2.1 ++ (arraysR S).2.2) ∧ Bytes (arraysR S).2.2 := by
            unfold arraysR at a0 ⊢
            by_cases d1 : (wrd S).1 ≠ 0
            · rw [if_pos d1] at a0; exact absurd a0 d1
            · rw [if_neg d1] at a0 ⊢
              by_cases d2 : 8 < (wrd S).2.1
              · rw [if_pos d2] at a0; exact absurd a0 (by decide)
              · rw [if_neg d2] at a0 ⊢
                obtain ⟨w1, w2, w3, w4⟩ := wrd_back S hb (by omega)
                obtain ⟨i1, i2, i3⟩ := arrR_back _ w4 _ a0
                refine ⟨?_, i2⟩
                rw [i3, Int.toNat_of_nonneg w2, ← i1]
                exact w1
          obtain ⟨hA1, hA2⟩ := hA
          obtain ⟨w1, w2, w3, w4⟩ := wrd_back _ hA2 (by omega)
          have hC : (wrd (arraysR S).2.2).2.2 = wenc ((codeR (wrd (arraysR S).2.2).2.2).2.1.length : Int) ++ (encC (codeR (wrd (arraysR S).2.2).2.2).2.1 ++ (codeR (wrd (arraysR S).2.2).2.2).2.2) := by
            have c0 : (codeR (wrd (arraysR S).2.2).2.2).1 = 0 := by omega
            generalize (wrd (arraysR S).2.2).2.2 = T at w4 c0
            unfold codeR at c0 ⊢
            by_cases d1 : (wrd T).1 ≠ 0
            · rw [if_pos d1] at c0; exact absurd c0 d1
            · rw [if_neg d1] at c0 ⊢
              by_cases d2 : 1024 < (wrd T).2.1
              · rw [if_pos d2] at c0; exact absurd c0 (by decide)
              · rw [if_neg d2] at c0 ⊢
                obtain ⟨v1, v2, v3, v4⟩ := wrd_back T w4 (by omega)
                obtain ⟨i1, i2, i3⟩ := codR_back _ v4 _ c0
                rw [i3, Int.toNat_of_nonneg v2, ← i1]
                exact v1
          rw [prog_split, ← hC, ← w1, ← hA1]
end Go.Proofs.YthjnchjfmbblfaaGreatDoor
