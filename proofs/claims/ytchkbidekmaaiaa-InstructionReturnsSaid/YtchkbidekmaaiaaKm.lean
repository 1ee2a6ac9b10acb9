/- The plain law of InstructionReturns. -/
import Derived.Test.YtchkbidekmaaiaaKl
namespace Go.Proofs.Ytchkbidekmaaiaa
open Go.RowKit
set_option linter.unusedVariables false

theorem arraysR_enc (A : List (Bool × Int)) (hl : A.length ≤ 8) (hA : ∀ x ∈ A, 1 ≤ x.2 ∧ x.2 ≤ 65536) (rest : List Int) : arraysR (wenc A.length ++ (encA A ++ rest)) = (0, A, rest) := by
  unfold arraysR
  rw [wrd_enc _ (by omega) (by omega), if_neg (by simp), if_neg (by simp only; omega)]
  simp only [Int.toNat_natCast]
  rw [arrR_enc A hA rest A.length (Nat.le_refl _), List.take_of_length_le (Nat.le_refl _), List.drop_of_length_le (Nat.le_refl _)]
  rfl
theorem codeR_enc (C : List (Int × Int)) (hl : C.length ≤ 1024) (hC : OkC C) (rest : List Int) : codeR (wenc C.length ++ (encC C ++ rest)) = (0, C, rest) := by
  unfold codeR
  rw [wrd_enc _ (by omega) (by omega), if_neg (by simp), if_neg (by simp only; omega)]
  simp only [Int.toNat_natCast]
  rw [codR_enc C hC rest C.length (Nat.le_refl _), List.take_of_length_le (Nat.le_refl _), List.drop_of_length_le (Nat.le_refl _)]
  rfl
theorem okC_of {A : List (Bool × Int)} {L : Int} {C : List (Int × Int)} (h : formE A L C = 0) (hC : OkI C) : OkC C := fun x hx => ⟨codE_ok C (form_ok h).2.2.2.2.2.1 x hx, (hC x hx).2⟩
theorem prog_split (A : List (Bool × Int)) (L : Int) (C : List (Int × Int)) (more : List Int) : progB A L C ++ more = wenc A.length ++ (encA A ++ (wenc L ++ (wenc C.length ++ (encC C ++ more)))) := by
  unfold progB
  simp only [List.append_assoc]
theorem dec_enc (A : List (Bool × Int)) (L : Int) (C : List (Int × Int)) (h : formE A L C = 0) (hC : OkI C) (more : List Int) : decR (progB A L C ++ more) = ⟨0, A, L, C, more⟩ := by
  obtain ⟨k1, k2, k3, k4, k5, k6, k7⟩ := form_ok h
  rw [prog_split]
  have hA := arraysR_enc A k1 k2 (wenc L ++ (wenc C.length ++ (encC C ++ more)))
  have hw := wrd_enc L k3 (by omega) (wenc C.length ++ (encC C ++ more))
  have hc := codeR_enc C k5 (okC_of h hC) more
  have := decR_4 _ hA (by rw [hw]) (show codeR (wrd (wenc L ++ (wenc C.length ++ (encC C ++ more)))).2.2 = (0, C, more) by rw [hw]; exact hc)
  rw [this, hw]
  simp only
  rw [if_neg (by simp [h])]
theorem arraysR_wtorn (S : List Int) (h : wrd S = (9, 0, [])) : (arraysR S).1 = 9 := by
  unfold arraysR
  rw [h, if_pos (by decide)]
theorem codeR_wtorn (S : List Int) (h : wrd S = (9, 0, [])) : (codeR S).1 = 9 := by
  unfold codeR
  rw [h, if_pos (by decide)]
/-- A beginning of an encoding is torn. -/
theorem dec_torn (A : List (Bool × Int)) (L : Int) (C : List (Int × Int)) (h : formE A L C = 0) (hC : OkI C) (i : Nat) (hi : i < (progB A L C).length) : decR ((progB A L C).take i) = errD 9 := by
  obtain ⟨k1, k2, k3, k4, k5, k6, k7⟩ := form_ok h
  have hokC := okC_of h hC
  have e : progB A L C = wenc A.length ++ (encA A ++ (wenc L ++ (wenc C.length ++ encC C))) := by
    have := prog_split A L C []
    simpa using this
  have hlen : (progB A L C).length = (wenc A.length).length + ((encA A).length + ((wenc L).length + ((wenc C.length).length + (encC C).length))) := by rw [e]; simp only [List.length_append]
  rw [e]
  rcases take_cut (wenc A.length) (encA A ++ (wenc L ++ (wenc C.length ++ encC C))) i with ⟨h1, h2⟩ | ⟨h1, h2⟩
  · rw [h2]
    exact decR_1 _ 9 (by decide) (arraysR_wtorn _ (wrd_torn_enc _ (by omega) (by omega) _ h1))
  · rw [h2]
    have hw1 := fun S => wrd_enc (A.length : Int) (by omega) (by omega) S
    rcases take_cut (encA A) (wenc L ++ (wenc C.length ++ encC C)) (i - (wenc A.length).length) with ⟨g1, g2⟩ | ⟨g1, g2⟩
    · rw [g2]
      refine decR_1 _ 9 (by decide) ?_
      unfold arraysR
      rw [hw1, if_neg (by simp), if_neg (by simp only; omega)]
      simp only [Int.toNat_natCast]
      rcases arrR_torn A k2 (i - (wenc A.length).length) A.length (Nat.le_refl _) with ht | ⟨ht, -⟩
      · exact ht
      · rw [List.take_of_length_le (Nat.le_refl _)] at ht
        omega
    · rw [g2]
      have hA := arraysR_enc A k1 k2 ((wenc L ++ (wenc C.length ++ encC C)).take (i - (wenc A.length).length - (encA A).length))
      rcases take_cut (wenc L) (wenc C.length ++ encC C) (i - (wenc A.length).length - (encA A).length) with ⟨f1, f2⟩ | ⟨f1, f2⟩
      · rw [f2] at hA ⊢
        have ht := wrd_torn_enc L k3 (by omega) _ f1
        have := decR_2 _ hA (by rw [ht]; decide)
        rw [this, ht]
      · rw [f2] at hA ⊢
        have hw2 := wrd_enc L k3 (by omega) ((wenc C.length ++ encC C).take (i - (wenc A.length).length - (encA A).length - (wenc L).length))
        refine decR_3 _ hA (by rw [hw2]) 9 (by decide) ?_
        rw [hw2]
        rcases take_cut (wenc C.length) (encC C) (i - (wenc A.length).length - (encA A).length - (wenc L).length) with ⟨q1, q2⟩ | ⟨q1, q2⟩
        · rw [q2]
          exact codeR_wtorn _ (wrd_torn_enc _ (by omega) (by omega) _ q1)
        · rw [q2]
          unfold codeR
          simp only
          rw [wrd_enc (C.length : Int) (by omega) (by omega), if_neg (by simp), if_neg (by simp only; omega)]
          simp only [Int.toNat_natCast]
          rcases codR_torn C hokC (i - (wenc A.length).length - (encA A).length - (wenc L).length - (wenc C.length).length) C.length (Nat.le_refl _) with ht | ⟨ht, -⟩
          · exact ht
          · rw [List.take_of_length_le (Nat.le_refl _)] at ht
            omega
theorem bytes_append {a b : List Int} (ha : Bytes a) (hb : Bytes b) : Bytes (a ++ b) := fun x hx => by
  rcases List.mem_append.1 hx with h | h
  · exact ha x h
  · exact hb x h
theorem wtail_bytes (n : Int) (k : Nat) : Bytes (wtail n k) := by
  induction k with
  | zero => intro x hx; cases hx
  | succ k ih =>
    intro x hx
    rcases List.mem_cons.1 hx with rfl | hx
    · omega
    · exact ih x hx
theorem wenc_bytes (n : Int) (h0 : 0 ≤ n) (h1 : n ≤ 9007199254740991) : Bytes (wenc n) := by
  have h7 := fur_7 n h0 h1
  have hw := whigh n h0 h1
  have hp : (2 : Int) ^ (8 - fur n) = 2 * 2 ^ (7 - fur n) := by rw [show 8 - fur n = 7 - fur n + 1 by omega, Int.pow_succ, Int.mul_comm]
  have hp8 : (2 : Int) ^ (8 - fur n) ≤ 256 := by
    have e : (2 : Int) ^ 8 = 256 := by decide
    rw [← e]
    exact_mod_cast Nat.pow_le_pow_right (by decide : 0 < 2) (by omega)
  intro x hx
  rcases List.mem_cons.1 hx with rfl | hx
  · unfold whead
    rw [hp] at hp8 ⊢
    omega
  · exact wtail_bytes n _ x hx
theorem prog_bytes (A : List (Bool × Int)) (L : Int) (C : List (Int × Int)) (h : formE A L C = 0) (hC : OkI C) : Bytes (progB A L C) := by
  obtain ⟨k1, k2, k3, k4, k5, k6, k7⟩ := form_ok h
  have hokC := okC_of h hC
  have hA : Bytes (encA A) := by
    intro x hx
    obtain ⟨a, ha, hx⟩ := List.mem_flatMap.1 hx
    exact wenc_bytes _ (wnum_bd _).1 (wnum_bd _).2 x hx
  have hCC : Bytes (encC C) := by
    intro x hx
    obtain ⟨a, ha, hx⟩ := List.mem_flatMap.1 hx
    obtain ⟨c1, c2, c3⟩ := hokC a ha
    have hr := chk_ok c1
    rw [encI_op c1] at hx
    rcases List.mem_cons.1 hx with rfl | hx
    · omega
    · split at hx
      · exact wenc_bytes _ c2 (by omega) x hx
      · cases hx
  unfold progB
  exact bytes_append (bytes_append (bytes_append (bytes_append (wenc_bytes _ (by omega) (by omega)) hA) (wenc_bytes _ k3 (by omega))) (wenc_bytes _ (by omega) (by omega))) hCC
theorem prog_len (A : List (Bool × Int)) (L : Int) (C : List (Int × Int)) (h : formE A L C = 0) (hC : OkI C) : 1 ≤ (progB A L C).length ∧ (progB A L C).length ≤ 20000 := by
  obtain ⟨k1, k2, k3, k4, k5, k6, k7⟩ := form_ok h
  have e1 := wenc_8 (A.length : Int) (by omega) (by omega)
  have e2 := encA_len A
  have e3 := wenc_8 L k3 (by omega)
  have e4 := wenc_8 (C.length : Int) (by omega) (by omega)
  have e5 := encC_len C (fun x hx => (hC x hx).2)
  have e6 := wenc_len (A.length : Int)
  unfold progB
  simp only [List.length_append]
  omega
end Go.Proofs.Ytchkbidekmaaiaa
