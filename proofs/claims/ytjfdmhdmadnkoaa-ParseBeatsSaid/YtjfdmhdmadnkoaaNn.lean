/- Layer 36: factorizations, plainly: what Beats, Proves, Joins and Returns say. -/
import Derived.Test.YtjfdmhdmadnkoaaNl
namespace Go.Proofs.Ytjfdmhdmadnkoaa
open Go.RowKit
set_option linter.unusedVariables false

/-- A factorization has no error and stands for the bytes. -/
theorem fac_all {D : List Int} (hb : Bytes D) (hl : D.length ≤ 65536) {l : List (Int × Int × Int)} (h : Fac D 0 l) : chkF l = 0 ∧ OkTs l ∧ l.length ≤ D.length ∧ exF [] l = D ∧ expF l = (0, D) ∧ cosE l = (0, sumP l) := by
  obtain ⟨h1, h2, h3, h4⟩ := fac_ck hb hl l 0 h
  have hc : chkF l = 0 := by unfold chkF; rw [if_neg (by omega)]; exact h1
  have he : exF [] l = D := by simpa using h4
  exact ⟨hc, h2, by omega, he, by unfold expF; rw [if_neg (by simp [hc]), he], by unfold cosE; rw [if_neg (by simp [hc])]⟩
theorem opF_fac {D : List Int} (hb : Bytes D) : Fac D 0 (opF D) := opt_fac hb D.length 0 (Nat.zero_le _) (by omega)
theorem opF_sum {D : List Int} (hb : Bytes D) : sumP (opF D) = (poF D).getD 0 0 := opt_sum hb D.length 0 (Nat.zero_le _) (by omega)
/-- No factorization costs less than the first potential. -/
theorem po_least {D : List Int} {l : List (Int × Int × Int)} (h : Fac D 0 l) : (poF D).getD 0 0 ≤ sumP l := fac_cost (poF_feas D) (poF_end D) l 0 h
theorem loF_fit {D : List Int} {a : Nat} (ha : a < D.length) : Fit D a (loF D a) := by
  refine ⟨ha, ?_⟩
  rcases loF_fnd D a with ⟨e, -⟩ | ⟨d, h1, h2, e, h3, -, -⟩
  · rw [e]; exact Or.inl rfl
  · rw [e]
    exact Or.inr ⟨lnT D a d, d, rfl, h3, h1, h2, Nat.le_refl _⟩
theorem gre_fac {D : List Int} (hb : Bytes D) (f a : Nat) (ha : a ≤ D.length) (hf : D.length ≤ a + f) : Fac D a (gre D f a) := by
  induction f generalizing a with
  | zero => rw [gre, Fac]; omega
  | succ f ih =>
    rcases Nat.lt_or_ge a D.length with h | h
    · rw [gre_step h, Fac]
      have hft := loF_fit h
      obtain ⟨h1, h2, h3, h4, h5, h6⟩ := chc_ok hb h (Nat.min_le_left 4096 a) (Nat.min_le_right 4096 a) hft.2
      exact ⟨hft, ih _ (by omega) (by omega)⟩
    · rw [gre_end h, Fac]; omega
theorem grF_fac {D : List Int} (hb : Bytes D) (hl : D.length ≤ 65536) : (grF D).1 = 0 ∧ Fac D 0 (grF D).2 := by
  unfold grF
  rw [if_neg (by omega)]
  exact ⟨rfl, gre_fac hb D.length 0 (Nat.zero_le _) (by omega)⟩

/-! Certificates. -/
theorem badP_of {P : List Int} (h : ∀ x ∈ P, 0 ≤ x ∧ x ≤ 589824) : badP P = false := by
  unfold badP
  rw [List.any_eq_false]
  intro x hx
  have := h x hx
  rw [decide_eq_true_iff]
  omega
theorem lowP_no {D P : List Int} (h : lowP D P = false) : okTo D P D.length := fun a ha => by
  unfold lowP at h
  rw [List.any_eq_false] at h
  have := h a (List.mem_range.2 ha)
  rw [decide_eq_true_iff] at this
  omega
/-- What a certificate says. -/
theorem cer_zero {D P : List Int} {l : List (Int × Int × Int)} (hl : D.length ≤ 65536) (h : cerF D l P = 0) :
    chkF l = 0 ∧ exF [] l = D ∧ P.length = D.length + 1 ∧ (∀ x ∈ P, 0 ≤ x ∧ x ≤ 589824) ∧ P.getD D.length 0 = 0 ∧ okTo D P D.length ∧ sumP l = P.getD 0 0 := by
  unfold cerF at h
  rw [if_neg (by omega)] at h
  by_cases k1 : chkF l = 0
  · rw [if_neg (by simp [k1])] at h
    by_cases k2 : exF [] l = D
    · rw [if_neg (by simp [k2])] at h
      by_cases k3 : P.length = D.length + 1
      · rw [if_neg (by simp [k3])] at h
        by_cases k4 : badP P = true
        · rw [if_pos k4] at h; cases h
        · rw [if_neg k4] at h
          by_cases k5 : P.getD D.length 0 = 0
          · rw [if_neg (fun e => e k5)] at h
            by_cases k6 : lowP D P = true
            · rw [if_pos k6] at h; cases h
            · rw [if_neg k6] at h
              by_cases k7 : sumP l = P.getD 0 0
              · exact ⟨k1, k2, k3, badP_no (by simpa using k4), k5, lowP_no (by simpa using k6), k7⟩
              · rw [if_pos k7] at h; cases h
          · rw [if_pos k5] at h; cases h
      · rw [if_pos k3] at h; cases h
    · rw [if_pos k2] at h; cases h
  · rw [if_pos k1] at h; exact absurd h k1
theorem zero_cer {D P : List Int} {l : List (Int × Int × Int)} (hl : D.length ≤ 65536) (k1 : chkF l = 0) (k2 : exF [] l = D) (k3 : P.length = D.length + 1) (k4 : ∀ x ∈ P, 0 ≤ x ∧ x ≤ 589824) (k5 : P.getD D.length 0 = 0) (k6 : okTo D P D.length) :
    cerF D l P = if sumP l = P.getD 0 0 then 0 else 23 := by
  unfold cerF
  rw [if_neg (by omega), if_neg (by simp [k1]), if_neg (by simp [k2]), if_neg (by simp [k3]), if_neg (by rw [badP_of k4]; simp), if_neg (fun e => e k5), if_neg (by rw [okTo_all k6]; simp)]
  by_cases k7 : sumP l = P.getD 0 0
  · rw [if_neg (fun e => e k7), if_pos k7]
  · rw [if_pos k7, if_neg k7]
theorem poF_bd {D : List Int} (hl : D.length ≤ 10000) : ∀ x ∈ poF D, 0 ≤ x ∧ x ≤ 589824 := fun x hx => by
  have := poW_bd D D.length x hx
  omega
theorem poF_okTo (D : List Int) : okTo D (poF D) D.length := fun a ha => by rw [poF_at D a ha]; exact Int.le_refl _
/-- The potentials certify a factorization just if its cost is the first one. -/
theorem cer_po {D : List Int} (hb : Bytes D) (hl : D.length ≤ 10000) {l : List (Int × Int × Int)} (h : Fac D 0 l) : cerF D l (poF D) = if sumP l = (poF D).getD 0 0 then 0 else 23 := by
  obtain ⟨h1, h2, h3, h4, -, -⟩ := fac_all hb (by omega) h
  exact zero_cer (by omega) h1 h4 (poF_len D) (poF_bd hl) (poF_end D) (poF_okTo D)
theorem cer_opt {D : List Int} (hb : Bytes D) (hl : D.length ≤ 10000) : cerF D (opF D) (poF D) = 0 := by
  rw [cer_po hb hl (opF_fac hb), if_pos (opF_sum hb)]
/-- Whatever certifies a factorization: it is an optimal one. -/
theorem cer_any {D Q : List Int} (hb : Bytes D) (hl : D.length ≤ 10000) {l : List (Int × Int × Int)} (h : Fac D 0 l) (hc : cerF D l Q = 0) : sumP l = (poF D).getD 0 0 ∧ Q.getD 0 0 = (poF D).getD 0 0 := by
  obtain ⟨c1, c2, c3, c4, c5, c6, c7⟩ := cer_zero (by omega) hc
  have hNN : NN Q := fun x hx => (c4 x hx).1
  have h1 := fac_cost (Q := Q) (fun a ha u hu => Int.le_trans (c6 a ha) ((beL_spec hNN a (chF D a) (chF_ne D a)).2.2.2 u hu)) c5 (opF D) 0 (opF_fac hb)
  rw [opF_sum hb] at h1
  have h2 := po_least h
  omega

/-! Strings of two parts. -/
theorem cmn_more (b : List Int) (d a k j : Nat) (h : k ≤ j) : cmn b d a k ≤ cmn b d a j := by
  induction k generalizing a j with
  | zero => exact Nat.zero_le _
  | succ k ih =>
    obtain ⟨j, rfl⟩ : ∃ i, j = i + 1 := ⟨j - 1, by omega⟩
    rw [cmn, cmn]
    split
    · have := ih (a + 1) j (by omega)
      omega
    · exact Nat.le_refl _
theorem cmn_same (b c : List Int) (d a e k : Nat) (h : ∀ i, i < k → b.getD (a + i) 0 = c.getD (e + i) 0 ∧ b.getD (a + i - d) 0 = c.getD (e + i - d) 0) : cmn b d a k = cmn c d e k := by
  induction k generalizing a e with
  | zero => rfl
  | succ k ih =>
    have h0 := h 0 (by omega)
    rw [Nat.add_zero, Nat.add_zero] at h0
    rw [cmn, cmn, h0.1, h0.2, ih (a + 1) (e + 1) (fun i hi => by
      have := h (i + 1) (by omega)
      rw [show a + 1 + i = a + (i + 1) by omega, show e + 1 + i = e + (i + 1) by omega]
      exact this)]
theorem getD_left (A B : List Int) (i : Nat) (h : i < A.length) : (A ++ B).getD i 0 = A.getD i 0 := by simp [List.getD, List.getElem?_append_left h]
theorem getD_right (A B : List Int) (i : Nat) : (A ++ B).getD (A.length + i) 0 = B.getD i 0 := by simp [List.getD, List.getElem?_append_right]
theorem fit_left (A B : List Int) {a : Nat} {t : Int × Int × Int} (h : Fit A a t) : Fit (A ++ B) a t := by
  obtain ⟨h0, hc⟩ := h
  refine ⟨by rw [List.length_append]; omega, ?_⟩
  rcases hc with rfl | ⟨n, d, rfl, h1, h2, h3, h4⟩
  · left; rw [getD_left A B a h0]
  · right
    refine ⟨n, d, rfl, h1, h2, h3, Nat.le_trans h4 ?_⟩
    unfold lnT
    have hm : mst A a ≤ mst (A ++ B) a := by unfold mst; rw [List.length_append]; omega
    rw [cmn_same A (A ++ B) d a a (mst A a) (fun i hi => by
      have : mst A a ≤ A.length - a := by unfold mst; omega
      exact ⟨(getD_left A B _ (by omega)).symm, (getD_left A B _ (by omega)).symm⟩)]
    exact cmn_more _ _ _ _ _ hm
theorem fit_right (A B : List Int) {a : Nat} {t : Int × Int × Int} (h : Fit B a t) : Fit (A ++ B) (A.length + a) t := by
  obtain ⟨h0, hc⟩ := h
  refine ⟨by rw [List.length_append]; omega, ?_⟩
  rcases hc with rfl | ⟨n, d, rfl, h1, h2, h3, h4⟩
  · left; rw [getD_right]
  · right
    refine ⟨n, d, rfl, h1, h2, by omega, ?_⟩
    unfold lnT at h4 ⊢
    have hm : mst (A ++ B) (A.length + a) = mst B a := by unfold mst; rw [List.length_append]; omega
    rw [hm, cmn_same (A ++ B) B d (A.length + a) a (mst B a) (fun i hi => by
      rw [show A.length + a + i = A.length + (a + i) by omega, getD_right, show A.length + (a + i) - d = A.length + (a + i - d) by omega, getD_right]
      exact ⟨rfl, rfl⟩)]
    exact h4
theorem fac_left (A B : List Int) (hA : Bytes A) (l r : List (Int × Int × Int)) (a : Nat) (h : Fac A a l) (hr : Fac (A ++ B) A.length r) : Fac (A ++ B) a (l ++ r) := by
  induction l generalizing a with
  | nil => rw [Fac] at h; rw [h]; exact hr
  | cons t l ih =>
    rw [Fac] at h
    rw [List.cons_append, Fac]
    exact ⟨fit_left A B h.1, ih _ h.2⟩
theorem fac_right (A B : List Int) (l : List (Int × Int × Int)) (a : Nat) (h : Fac B a l) : Fac (A ++ B) (A.length + a) l := by
  induction l generalizing a with
  | nil => rw [Fac] at h ⊢; rw [h, List.length_append]
  | cons t l ih =>
    rw [Fac] at h ⊢
    refine ⟨fit_right A B h.1, ?_⟩
    have := ih _ h.2
    rw [show A.length + a + (szT t).toNat = A.length + (a + (szT t).toNat) by omega]
    exact this
theorem sumP_app (l r : List (Int × Int × Int)) : sumP (l ++ r) = sumP l + sumP r := by simp [sumP]
/-- A string of two parts costs at most as much as both. -/
theorem po_join {A B : List Int} (hA : Bytes A) (hB : Bytes B) : (poF (A ++ B)).getD 0 0 ≤ (poF A).getD 0 0 + (poF B).getD 0 0 := by
  have hr := fac_right A B (opF B) 0 (opF_fac hB)
  rw [Nat.add_zero] at hr
  have := po_least (fac_left A B hA (opF A) (opF B) 0 (opF_fac hA) hr)
  rw [sumP_app, opF_sum hA, opF_sum hB] at this
  exact this
theorem po_behind {A B : List Int} (hB : Bytes B) : (poF (A ++ B)).getD A.length 0 ≤ (poF B).getD 0 0 := by
  have hr := fac_right A B (opF B) 0 (opF_fac hB)
  rw [Nat.add_zero] at hr
  have := fac_cost (poF_feas (A ++ B)) (poF_end (A ++ B)) (opF B) A.length hr
  rw [opF_sum hB] at this
  exact this
theorem chc_dear {D : List Int} {a : Nat} {t : Int × Int × Int} (h : Chc D a (min 4096 a) t) : 3 ≤ prc t := by
  rcases h with rfl | ⟨n, d, rfl, h1, h2, h3, h4⟩
  · rw [prc_lit]; omega
  · have := lnT_le D a d
    exact (prc_mono (n : Int) (d : Int) (n : Int) (d : Int) (by omega) (by omega) (by omega) (by omega) (by omega) (by omega)).1
theorem po_step {D : List Int} {a : Nat} (ha : a < D.length) : (poF D).getD a 0 ≤ (poF D).getD (a + 1) 0 + 9 ∧ 3 ≤ (poF D).getD a 0 := by
  have hs := beL_spec (poF_nn D) a (chF D a) (chF_ne D a)
  have he : (poF D).getD a 0 = (beL (poF D) a (chF D a)).1 := poF_at D a ha
  constructor
  · have hm : (0, 0, D.getD a 0) ∈ chF D a := by
      have : ∀ k, (0, 0, D.getD a 0) ∈ chA D a k := fun k => by
        induction k with
        | zero => simp [chA]
        | succ k ih => rw [chA, chX]; exact List.mem_append_left _ ih
      exact this _
    have := hs.2.2.2 _ hm
    unfold ctP at this
    rw [prc_lit] at this
    have hz : (szT (0, 0, D.getD a 0)).toNat = 1 := by simp [szT]
    rw [hz] at this
    omega
  · have hc := chc_dear (chA_mem D a _ _ hs.1)
    have hp := (poF_nn D).get (a + (szT (beL (poF D) a (chF D a)).2).toNat)
    rw [he, hs.2.1]
    unfold ctP
    omega
/-- The encoding of the optimal factorization. -/
theorem enc_opt {D : List Int} (hb : Bytes D) (hl : D.length ≤ 10000) : encF (opF D) = (0, pshs [] 0 (tbs (opF D))) ∧ decF (pshs [] 0 (tbs (opF D))) = (0, opF D) ∧ ((pshs [] 0 (tbs (opF D))).length : Int) = ((poF D).getD 0 0 + 7) / 8 ∧ (pshs [] 0 (tbs (opF D))).length ≤ 65536 ∧ Bytes (pshs [] 0 (tbs (opF D))) := by
  obtain ⟨h1, h2, h3, h4, -, -⟩ := fac_all hb (by omega) (opF_fac hb)
  have hs := sumP_bd (opF D)
  have hr := ckL_right (chkF_ck h1).1
  have hln := tbs_len (opF D) hr
  have hp := pshs_len (D := []) (c := 0) WF.nil (tbs_01 (opF D))
  rw [Nat.zero_add] at hp
  have ho := opF_sum hb
  refine ⟨by unfold encF; rw [if_neg (by simp [h1]), if_neg (by omega)], dec_enc (opF D) h2 h1 (by omega), by rw [hp]; omega, by rw [hp]; omega, ?_⟩
  exact (WF.nil.pshs (tbs_01 (opF D))).bytes
end Go.Proofs.Ytjfdmhdmadnkoaa
