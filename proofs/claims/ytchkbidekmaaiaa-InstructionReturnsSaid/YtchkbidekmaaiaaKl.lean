/- The plain law: what was encoded is decoded; a beginning of an encoding is torn. -/
import Derived.Test.YtchkbidekmaaiaaKh
namespace Go.Proofs.Ytchkbidekmaaiaa
open Go.RowKit
set_option linter.unusedVariables false

theorem head_tab : (List.range 8).all (fun k => (List.range (2 ^ (7 - k))).all fun h => decide (ones (256 - 2 ^ (8 - k) + (h : Int)) = k) && decide (first (256 - 2 ^ (8 - k) + (h : Int)) k = (h : Int))) = true := by decide +kernel
theorem whead_ones (n : Int) (h0 : 0 ≤ n) (h1 : n ≤ 9007199254740991) : ones (whead n) = fur n ∧ first (whead n) (fur n) = n / 2 ^ (8 * fur n) := by
  have h7 := fur_7 n h0 h1
  have hw := whigh n h0 h1
  unfold whead
  obtain ⟨k, hk⟩ : ∃ k, fur n = k := ⟨_, rfl⟩
  rw [hk] at h7 hw ⊢
  obtain ⟨x, hx⟩ := Int.eq_ofNat_of_zero_le hw.1
  rw [hx] at hw ⊢
  have hx2 : x < 2 ^ (7 - k) := by
    have := hw.2
    have e : ((2 ^ (7 - k) : Nat) : Int) = (2 : Int) ^ (7 - k) := by simp
    omega
  have h1 := List.all_eq_true.1 head_tab k (by simp; omega)
  have h2 := List.all_eq_true.1 h1 x (by simpa using hx2)
  simp only [Bool.and_eq_true, decide_eq_true_eq] at h2
  exact h2
theorem grow_tail (n : Int) (k : Nat) : grow (n / 2 ^ (8 * k)) (wtail n k) = n := by
  induction k with
  | zero => simp [wtail, grow]
  | succ k ih =>
    have e : n / 2 ^ (8 * (k + 1)) = n / 2 ^ (8 * k) / 256 := by
      rw [show 8 * (k + 1) = 8 * k + 8 by omega, Int.pow_add, Int.ediv_ediv_of_nonneg (Int.pow_nonneg (by decide))]
      rfl
    show grow (256 * (n / 2 ^ (8 * (k + 1))) + n / 2 ^ (8 * k) % 256) (wtail n k) = n
    rw [e, show 256 * (n / 2 ^ (8 * k) / 256) + n / 2 ^ (8 * k) % 256 = n / 2 ^ (8 * k) by omega]
    exact ih
theorem wrd_enc (n : Int) (h0 : 0 ≤ n) (h1 : n ≤ 9007199254740991) (more : List Int) : wrd (wenc n ++ more) = (0, n, more) := by
  obtain ⟨o1, o2⟩ := whead_ones n h0 h1
  have h7 := fur_7 n h0 h1
  have hl := wtail_len n (fur n)
  have e : wenc n ++ more = whead n :: (wtail n (fur n) ++ more) := rfl
  have ht : (wtail n (fur n) ++ more).take (fur n) = wtail n (fur n) := by rw [List.take_append_of_le_length (by omega), List.take_of_length_le (by omega)]
  have hd : (wtail n (fur n) ++ more).drop (fur n) = more := by rw [List.drop_append_of_le_length (by omega), List.drop_of_length_le (by omega)]; rfl
  rw [e, wrd_good (whead n) _ (fur n) o1 h7 (by rw [List.length_append]; omega) n (by rw [ht, o2]; exact grow_tail n (fur n)) (by omega), hd]
theorem wrd_torn_enc (n : Int) (h0 : 0 ≤ n) (h1 : n ≤ 9007199254740991) (i : Nat) (hi : i < (wenc n).length) : wrd ((wenc n).take i) = (9, 0, []) := by
  obtain ⟨o1, -⟩ := whead_ones n h0 h1
  have h7 := fur_7 n h0 h1
  have hl := wtail_len n (fur n)
  have hll := wenc_len n
  cases i with
  | zero => rfl
  | succ i =>
    have e : (wenc n).take (i + 1) = whead n :: (wtail n (fur n)).take i := rfl
    rw [e]
    refine wrd_torn (whead n) _ (by omega) ?_
    rw [o1, List.length_take]
    omega
theorem take_cut (a b : List Int) (i : Nat) : (i < a.length ∧ (a ++ b).take i = a.take i) ∨ (a.length ≤ i ∧ (a ++ b).take i = a ++ b.take (i - a.length)) := by
  by_cases h : i < a.length
  · exact Or.inl ⟨h, List.take_append_of_le_length (by omega)⟩
  · refine Or.inr ⟨by omega, ?_⟩
    rw [List.take_append, List.take_of_length_le (by omega)]

/-! The arrays. -/
theorem arrN_bd {a : Bool × Int} (h : 1 ≤ a.2 ∧ a.2 ≤ 65536) : 0 ≤ arrN a ∧ arrN a ≤ 9007199254740991 := by unfold arrN; split <;> omega
theorem arrN_back (a : Bool × Int) : (arrN a % 2 == 1, arrN a / 2) = a := by
  obtain ⟨b, s⟩ := a
  cases b
  · show ((2 * s + 0) % 2 == 1, (2 * s + 0) / 2) = (false, s)
    rw [show (2 * s + 0) % 2 = 0 by omega, show (2 * s + 0) / 2 = s by omega]
    rfl
  · show ((2 * s + 1) % 2 == 1, (2 * s + 1) / 2) = (true, s)
    rw [show (2 * s + 1) % 2 = 1 by omega, show (2 * s + 1) / 2 = s by omega]
    rfl
theorem encA_cons (a : Bool × Int) (l : List (Bool × Int)) : encA (a :: l) = wenc (wnum (arrN a)) ++ encA l := by simp [encA]
theorem arrR_step (k : Nat) (S : List Int) (A : List (Bool × Int)) (T : List Int) (h : arrR k S = (0, A, T)) : arrR (k + 1) S = if (wrd T).1 ≠ 0 then ((wrd T).1, [], []) else (0, A ++ [((wrd T).2.1 % 2 == 1, (wrd T).2.1 / 2)], (wrd T).2.2) := by
  show (if (arrR k S).1 ≠ 0 then arrR k S else if (wrd (arrR k S).2.2).1 ≠ 0 then ((wrd (arrR k S).2.2).1, [], []) else (0, (arrR k S).2.1 ++ [((wrd (arrR k S).2.2).2.1 % 2 == 1, (wrd (arrR k S).2.2).2.1 / 2)], (wrd (arrR k S).2.2).2.2)) = _
  rw [h]
  rfl
theorem arrR_enc (A : List (Bool × Int)) (hA : ∀ x ∈ A, 1 ≤ x.2 ∧ x.2 ≤ 65536) (rest : List Int) (k : Nat) (hk : k ≤ A.length) : arrR k (encA A ++ rest) = (0, A.take k, encA (A.drop k) ++ rest) := by
  induction k with
  | zero => rfl
  | succ k ih =>
    have ih := ih (by omega)
    obtain ⟨x, hx, hxm⟩ := at_lt A (k := k) (by omega)
    have hb := arrN_bd (hA x hxm)
    rw [arrR_step k _ _ _ ih, drop_at hx, encA_cons, List.append_assoc, wnum_id hb.1 hb.2, wrd_enc _ hb.1 hb.2]
    rw [if_neg (by simp)]
    simp only [arrN_back]
    rw [List.take_succ_eq_append_getElem (by omega)]
    rw [(List.getElem?_eq_some_iff.1 hx).2]
theorem arrR_torn (A : List (Bool × Int)) (hA : ∀ x ∈ A, 1 ≤ x.2 ∧ x.2 ≤ 65536) (j : Nat) (k : Nat) (hk : k ≤ A.length) :
    (arrR k ((encA A).take j)).1 = 9 ∨ ((encA (A.take k)).length ≤ j ∧ arrR k ((encA A).take j) = (0, A.take k, (encA (A.drop k)).take (j - (encA (A.take k)).length))) := by
  induction k with
  | zero => right; exact ⟨Nat.zero_le _, rfl⟩
  | succ k ih =>
    rcases ih (by omega) with h | ⟨hl, h⟩
    · left
      rw [arrR_stuck k _ (by rw [h]; decide) (k + 1) (by omega)]
      exact h
    · obtain ⟨x, hx, hxm⟩ := at_lt A (k := k) (by omega)
      have hb := arrN_bd (hA x hxm)
      have htk : A.take (k + 1) = A.take k ++ [x] := by
        rw [List.take_succ_eq_append_getElem (by omega)]
        rw [(List.getElem?_eq_some_iff.1 hx).2]
      have hel : (encA (A.take (k + 1))).length = (encA (A.take k)).length + (wenc (arrN x)).length := by rw [htk, encA_snoc, List.length_append, wnum_id hb.1 hb.2]
      have hs := arrR_step k _ _ _ h
      rw [drop_at hx, encA_cons, wnum_id hb.1 hb.2] at hs
      rcases take_cut (wenc (arrN x)) (encA (A.drop (k + 1))) (j - (encA (A.take k)).length) with ⟨h1, h2⟩ | ⟨h1, h2⟩
      · left
        rw [hs, h2, wrd_torn_enc _ hb.1 hb.2 _ h1]
        rfl
      · right
        refine ⟨by omega, ?_⟩
        rw [hs, h2, wrd_enc _ hb.1 hb.2, if_neg (by simp)]
        simp only [arrN_back]
        rw [htk, ← htk, hel, htk, show j - ((encA (A.take k)).length + (wenc (arrN x)).length) = j - (encA (A.take k)).length - (wenc (arrN x)).length by omega]

/-! The code. -/
theorem lim_tab : (List.range 36).all (fun k => (opAt (k : Int)).2.2.2.2 || decide ((opAt (k : Int)).2.2.2.1 = 1)) = true := by decide +kernel
theorem chk_noarg {op arg : Int} (h : chkI op arg = 0) (h0 : 0 ≤ arg) (hn : (opAt op).2.2.2.2 = false) : arg = 0 := by
  have hr := chk_ok h
  obtain ⟨k, rfl⟩ := Int.eq_ofNat_of_zero_le hr.1
  have ht := List.all_eq_true.1 lim_tab k (by simp; omega)
  rw [hn] at ht
  simp only [Bool.false_or, decide_eq_true_eq] at ht
  unfold chkI at h
  by_cases h1 : isOp (k : Int) = false
  · rw [if_pos h1] at h; cases h
  · rw [if_neg h1, ht] at h
    by_cases h2 : 1 ≤ arg
    · rw [if_pos h2] at h; cases h
    · omega
def OkC (l : List (Int × Int)) : Prop := ∀ x ∈ l, chkI x.1 x.2 = 0 ∧ 0 ≤ x.2 ∧ x.2 ≤ 4294967295
theorem encI_op {x : Int × Int} (h : chkI x.1 x.2 = 0) : encI x = x.1 :: (if (opAt x.1).2.2.2.2 then wenc x.2 else []) := by
  have := chk_ok h
  unfold encI
  rw [Int.emod_eq_of_lt this.1 (by omega)]
theorem stepI_enc (x : Int × Int) (h : chkI x.1 x.2 = 0) (h0 : 0 ≤ x.2) (h1 : x.2 ≤ 4294967295) (T : List Int) : stepI (encI x ++ T) = (0, x, T) := by
  rw [encI_op h, List.cons_append, stepI_cons]
  by_cases hh : (opAt x.1).2.2.2.2 = true
  · rw [if_pos hh, if_pos hh, wrd_enc x.2 h0 (by omega), if_neg (by simp), if_neg (by simp only; omega)]
  · have hf : (opAt x.1).2.2.2.2 = false := by simpa using hh
    rw [if_neg hh, if_neg hh, ← chk_noarg h h0 hf]
    rfl
theorem stepI_torn (x : Int × Int) (h : chkI x.1 x.2 = 0) (h0 : 0 ≤ x.2) (h1 : x.2 ≤ 4294967295) (i : Nat) (hi : i < (encI x).length) : (stepI ((encI x).take i)).1 = 9 := by
  rw [encI_op h] at hi ⊢
  cases i with
  | zero => rfl
  | succ i =>
    rw [List.take_succ_cons, stepI_cons]
    by_cases hh : (opAt x.1).2.2.2.2 = true
    · rw [if_pos hh] at hi ⊢
      rw [if_pos hh]
      have ht := wrd_torn_enc x.2 h0 (by omega) i (by simpa using hi)
      rw [ht, if_pos (by decide)]
    · rw [if_neg hh] at hi
      simp at hi
theorem encC_cons (a : Int × Int) (l : List (Int × Int)) : encC (a :: l) = encI a ++ encC l := by simp [encC]
theorem codR_step (k : Nat) (S : List Int) (C : List (Int × Int)) (T : List Int) (h : codR k S = (0, C, T)) : codR (k + 1) S = if (stepI T).1 ≠ 0 then ((stepI T).1, [], []) else (0, C ++ [(stepI T).2.1], (stepI T).2.2) := by
  show (if (codR k S).1 ≠ 0 then codR k S else if (stepI (codR k S).2.2).1 ≠ 0 then ((stepI (codR k S).2.2).1, [], []) else (0, (codR k S).2.1 ++ [(stepI (codR k S).2.2).2.1], (stepI (codR k S).2.2).2.2)) = _
  rw [h]
  rfl
theorem codR_enc (C : List (Int × Int)) (hC : OkC C) (rest : List Int) (k : Nat) (hk : k ≤ C.length) : codR k (encC C ++ rest) = (0, C.take k, encC (C.drop k) ++ rest) := by
  induction k with
  | zero => rfl
  | succ k ih =>
    have ih := ih (by omega)
    obtain ⟨x, hx, hxm⟩ := at_lt C (k := k) (by omega)
    obtain ⟨c1, c2, c3⟩ := hC x hxm
    rw [codR_step k _ _ _ ih, drop_at hx, encC_cons, List.append_assoc, stepI_enc x c1 c2 c3, if_neg (by simp)]
    rw [List.take_succ_eq_append_getElem (by omega)]
    rw [(List.getElem?_eq_some_iff.1 hx).2]
theorem codR_torn (C : List (Int × Int)) (hC : OkC C) (j : Nat) (k : Nat) (hk : k ≤ C.length) :
    (codR k ((encC C).take j)).1 = 9 ∨ ((encC (C.take k)).length ≤ j ∧ codR k ((encC C).take j) = (0, C.take k, (encC (C.drop k)).take (j - (encC (C.take k)).length))) := by
  induction k with
  | zero => right; exact ⟨Nat.zero_le _, rfl⟩
  | succ k ih =>
    rcases ih (by omega) with h | ⟨hl, h⟩
    · left
      rw [codR_stuck k _ (by rw [h]; decide) (k + 1) (by omega)]
      exact h
    · obtain ⟨x, hx, hxm⟩ := at_lt C (k := k) (by omega)
      obtain ⟨c1, c2, c3⟩ := hC x hxm
      have htk : C.take (k + 1) = C.take k ++ [x] := by
        rw [List.take_succ_eq_append_getElem (by omega)]
        rw [(List.getElem?_eq_some_iff.1 hx).2]
      have hel : (encC (C.take (k + 1))).length = (encC (C.take k)).length + (encI x).length := by rw [htk, encC_snoc, List.length_append]
      have hs := codR_step k _ _ _ h
      rw [drop_at hx, encC_cons] at hs
      rcases take_cut (encI x) (encC (C.drop (k + 1))) (j - (encC (C.take k)).length) with ⟨h1, h2⟩ | ⟨h1, h2⟩
      · left
        have ht := stepI_torn x c1 c2 c3 _ h1
        rw [hs, h2, ht, if_pos (by decide)]
      · right
        refine ⟨by omega, ?_⟩
        rw [hs, h2, stepI_enc x c1 c2 c3, if_neg (by simp)]
        rw [htk, ← htk, hel, htk, show j - ((encC (C.take k)).length + (encI x).length) = j - (encC (C.take k)).length - (encI x).length by omega]
end Go.Proofs.Ytchkbidekmaaiaa
