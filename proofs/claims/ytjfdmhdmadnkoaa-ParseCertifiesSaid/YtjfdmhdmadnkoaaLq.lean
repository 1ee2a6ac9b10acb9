/- Layer 35: the search for copies, plainly. -/
import Derived.Test.YtjfdmhdmadnkoaaLa
namespace Go.Proofs.Ytjfdmhdmadnkoaa
open Go.RowKit
set_option linter.unusedVariables false

/-- How many bytes from a place on are those at a distance before them, at most so many. -/
def cmn (b : List Int) (d : Nat) : Nat → Nat → Nat
  | _, 0 => 0
  | a, k + 1 => if b.getD a 0 = b.getD (a - d) 0 then cmn b d (a + 1) k + 1 else 0
theorem cmn_le (b : List Int) (d a k : Nat) : cmn b d a k ≤ k := by
  induction k generalizing a with
  | zero => exact Nat.le_refl _
  | succ k ih =>
    unfold cmn
    have := ih (a + 1)
    split <;> omega
theorem cmn_eq (b : List Int) (d a k j : Nat) (h : j < cmn b d a k) : b.getD (a + j) 0 = b.getD (a + j - d) 0 := by
  induction k generalizing a j with
  | zero => exact absurd h (Nat.not_lt_zero _)
  | succ k ih =>
    unfold cmn at h
    split at h
    · next h0 =>
      cases j with
      | zero => exact h0
      | succ j =>
        have := ih (a + 1) j (by omega)
        rw [show a + (j + 1) = a + 1 + j by omega]
        exact this
    · exact absurd h (Nat.not_lt_zero _)
theorem cmn_ne (b : List Int) (d a k : Nat) (h : cmn b d a k < k) : b.getD (a + cmn b d a k) 0 ≠ b.getD (a + cmn b d a k - d) 0 := by
  induction k generalizing a with
  | zero => exact absurd h (Nat.not_lt_zero _)
  | succ k ih =>
    unfold cmn at h ⊢
    split at h
    · next h0 =>
      rw [if_pos h0]
      have := ih (a + 1) (by omega)
      rw [show a + (cmn b d (a + 1) k + 1) = a + 1 + cmn b d (a + 1) k by omega]
      exact this
    · next h0 => rw [if_neg h0]; exact h0
/-- The greatest length of a copy at a place. -/
def mst (b : List Int) (a : Nat) : Nat := min 255 (b.length - a)
def lnT (b : List Int) (a d : Nat) : Nat := cmn b d a (mst b a)
theorem lnT_le (b : List Int) (a d : Nat) : lnT b a d ≤ 255 ∧ lnT b a d ≤ b.length - a := by
  have := cmn_le b d a (mst b a)
  unfold lnT
  unfold mst at this ⊢
  omega
/-- The copies at a place: distance and length. -/
def cps (b : List Int) (a k : Nat) : List (Nat × Nat) := ((List.range k).map fun j => (j + 1, lnT b a (j + 1))).filter fun p => decide (2 ≤ p.2)
theorem cps_zero (b : List Int) (a : Nat) : cps b a 0 = [] := rfl
theorem cps_yes (b : List Int) (a k : Nat) (h : 2 ≤ lnT b a (k + 1)) : cps b a (k + 1) = cps b a k ++ [(k + 1, lnT b a (k + 1))] := by
  unfold cps
  rw [List.range_succ, List.map_append, List.filter_append]
  congr 1
  simp [h]
theorem cps_no (b : List Int) (a k : Nat) (h : lnT b a (k + 1) < 2) : cps b a (k + 1) = cps b a k := by
  unfold cps
  rw [List.range_succ, List.map_append, List.filter_append]
  simp
  omega
theorem cps_len (b : List Int) (a k : Nat) : (cps b a k).length ≤ k := by
  have := List.length_filter_le (fun p : Nat × Nat => decide (2 ≤ p.2)) ((List.range k).map fun j => (j + 1, lnT b a (j + 1)))
  simpa [cps] using this
/-- The better one of a token and a copy. -/
def bst (t : Int × Int × Int) (p : Nat × Nat) : Int × Int × Int := if t.1 < (p.2 : Int) then ((p.2 : Int), (p.1 : Int), 0) else t
def bsts (y : Int) (l : List (Nat × Nat)) : Int × Int × Int := l.foldl bst (0, 0, y)
theorem bsts_snoc (y : Int) (l : List (Nat × Nat)) (p : Nat × Nat) : bsts y (l ++ [p]) = bst (bsts y l) p := by simp [bsts]
/-- The longest copy at a place, or a literal. -/
def loF (b : List Int) (a : Nat) : Int × Int × Int := bsts (b.getD a 0) (cps b a (min 4096 a))
/-- What the search has found up to a distance. -/
def Fnd (b : List Int) (a k : Nat) (t : Int × Int × Int) : Prop :=
  (t = (0, 0, b.getD a 0) ∧ ∀ d, 1 ≤ d → d ≤ k → lnT b a d < 2) ∨
  ∃ d, 1 ≤ d ∧ d ≤ k ∧ t = ((lnT b a d : Int), (d : Int), 0) ∧ 2 ≤ lnT b a d ∧ (∀ e, 1 ≤ e → e ≤ k → lnT b a e ≤ lnT b a d) ∧ (∀ e, 1 ≤ e → e < d → lnT b a e < lnT b a d)
theorem fnd_cps (b : List Int) (a k : Nat) : Fnd b a k (bsts (b.getD a 0) (cps b a k)) := by
  induction k with
  | zero => exact Or.inl ⟨rfl, fun d h1 h2 => by omega⟩
  | succ k ih =>
    by_cases h : 2 ≤ lnT b a (k + 1)
    · rw [cps_yes b a k h, bsts_snoc]
      unfold bst
      rcases ih with ⟨e1, e2⟩ | ⟨d, h1, h2, e1, h3, h4, h5⟩
      · rw [e1, if_pos (by show (0 : Int) < _; simp only; omega)]
        refine Or.inr ⟨k + 1, by omega, by omega, rfl, h, fun e g1 g2 => ?_, fun e g1 g2 => ?_⟩
        · rcases Nat.lt_or_ge e (k + 1) with g | g
          · have := e2 e g1 (by omega); omega
          · obtain rfl : e = k + 1 := by omega
            exact Nat.le_refl _
        · have := e2 e g1 (by omega); omega
      · rw [e1]
        by_cases hlt : lnT b a d < lnT b a (k + 1)
        · rw [if_pos (by show (_ : Int) < _; simp only; omega)]
          refine Or.inr ⟨k + 1, by omega, by omega, rfl, h, fun e g1 g2 => ?_, fun e g1 g2 => ?_⟩
          · rcases Nat.lt_or_ge e (k + 1) with g | g
            · have := h4 e g1 (by omega); omega
            · obtain rfl : e = k + 1 := by omega
              exact Nat.le_refl _
          · have := h4 e g1 (by omega); omega
        · rw [if_neg (by show ¬ (_ : Int) < _; simp only; omega)]
          refine Or.inr ⟨d, h1, by omega, rfl, h3, fun e g1 g2 => ?_, h5⟩
          rcases Nat.lt_or_ge e (k + 1) with g | g
          · exact h4 e g1 (by omega)
          · obtain rfl : e = k + 1 := by omega
            omega
    · rw [cps_no b a k (by omega)]
      rcases ih with ⟨e1, e2⟩ | ⟨d, h1, h2, e1, h3, h4, h5⟩
      · refine Or.inl ⟨e1, fun e g1 g2 => ?_⟩
        rcases Nat.lt_or_ge e (k + 1) with g | g
        · exact e2 e g1 (by omega)
        · obtain rfl : e = k + 1 := by omega
          omega
      · refine Or.inr ⟨d, h1, by omega, e1, h3, fun e g1 g2 => ?_, h5⟩
        rcases Nat.lt_or_ge e (k + 1) with g | g
        · exact h4 e g1 (by omega)
        · obtain rfl : e = k + 1 := by omega
          omega
theorem loF_fnd (b : List Int) (a : Nat) : Fnd b a (min 4096 a) (loF b a) := fnd_cps b a _
theorem fnd_ok {b : List Int} {a k : Nat} {t : Int × Int × Int} (h : Fnd b a k t) (hb : Bytes b) (hk : k ≤ 4096) (hka : k ≤ a) (ha : a < b.length) : ¬ Wr t ∧ t.2.1 ≤ (a : Int) ∧ (a : Int) + szT t ≤ b.length ∧ 0 ≤ t.2.1 ∧ 0 ≤ t.1 ∧ t.1 ≤ 255 ∧ 0 ≤ t.2.2 ∧ t.2.2 ≤ 255 := by
  rcases h with ⟨rfl, -⟩ | ⟨d, h1, h2, rfl, h3, -, -⟩
  · have := hb.get a ha
    refine ⟨by simp [Wr], by simp, by simp [szT]; omega, by simp, by simp, by simp, this.1, this.2⟩
  · have := lnT_le b a d
    refine ⟨?_, by simp only; omega, ?_, by simp only; omega, by simp only; omega, by simp only; omega, by simp, by simp⟩
    · unfold Wr
      simp only
      rw [if_neg (by omega)]
      omega
    · unfold szT
      simp only
      rw [if_neg (by omega)]
      omega
theorem loF_ok {b : List Int} (hb : Bytes b) {a : Nat} (ha : a < b.length) : ¬ Wr (loF b a) ∧ (loF b a).2.1 ≤ (a : Int) ∧ (a : Int) + szT (loF b a) ≤ b.length ∧ 0 ≤ (loF b a).2.1 ∧ 0 ≤ (loF b a).1 ∧ (loF b a).1 ≤ 255 ∧ 0 ≤ (loF b a).2.2 ∧ (loF b a).2.2 ≤ 255 :=
  fnd_ok (loF_fnd b a) hb (by omega) (by omega) ha
/-- Longest: error, token. -/
def loE (b : List Int) (a : Int) : Int × (Int × Int × Int) := if 65536 < b.length then (5, (0, 0, 0)) else if a < 0 ∨ (b.length : Int) ≤ a then (2, (0, 0, 0)) else (0, loF b a.toNat)
/-- The longest tokens, one after another; so many at most. -/
def gre (b : List Int) : Nat → Nat → List (Int × Int × Int)
  | 0, _ => []
  | f + 1, a => if a < b.length then loF b a :: gre b f (a + (szT (loF b a)).toNat) else []
def grF (b : List Int) : Int × List (Int × Int × Int) := if 65536 < b.length then (5, []) else (0, gre b b.length 0)
theorem gre_end {b : List Int} {f a : Nat} (h : b.length ≤ a) : gre b f a = [] := by
  cases f with
  | zero => rfl
  | succ f => rw [gre, if_neg (by omega)]
theorem gre_len (b : List Int) (f a : Nat) : (gre b f a).length ≤ b.length - a := by
  induction f generalizing a with
  | zero => simp [gre]
  | succ f ih =>
    rw [gre]
    split
    · have h1 := ih (a + (szT (loF b a)).toNat)
      have h2 := szT_pos (loF b a)
      rw [List.length_cons]
      omega
    · simp
theorem gre_ck {b : List Int} (hb : Bytes b) (hl : b.length ≤ 65536) (f a : Nat) : ckL (a : Int) (gre b f a) = 0 := by
  induction f generalizing a with
  | zero => rfl
  | succ f ih =>
    rw [gre]
    split
    · next ha =>
      obtain ⟨h1, h2, h3, -⟩ := loF_ok hb ha
      have h4 := szT_pos (loF b a)
      rw [ckL, if_neg (by rw [ok_ckT h1 h2 (by omega)]; simp)]
      have := ih (a + (szT (loF b a)).toNat)
      rw [Int.natCast_add, Int.toNat_of_nonneg (by omega)] at this
      exact this
    · rfl
theorem gre_okT {b : List Int} (hb : Bytes b) (f a : Nat) : OkTs (gre b f a) := by
  induction f generalizing a with
  | zero => intro x hx; cases hx
  | succ f ih =>
    rw [gre]
    split
    · next ha =>
      obtain ⟨h1, h2, h3, h5, h6, h7, h8, h9⟩ := loF_ok hb ha
      intro x hx
      rcases List.mem_cons.1 hx with rfl | hx
      · refine ⟨⟨by omega, by omega⟩, ⟨by omega, ?_⟩, h8, h9⟩
        by_cases k0 : (loF b a).1 = 0
        · have := Wr_lit h1 k0; omega
        · have := Wr_copy h1 k0; omega
      · exact ih _ x hx
    · intro x hx; cases hx
theorem take_snoc {b : List Int} {a : Nat} (h : a < b.length) : b.take a ++ [b.getD a 0] = b.take (a + 1) := by
  rw [List.take_succ_eq_append_getElem h]
  simp [List.getD, h]
theorem cpy_take (b : List Int) (d n a : Nat) (hd : 1 ≤ d) (hda : d ≤ a) (hl : a + n ≤ b.length) (h : ∀ j, j < n → b.getD (a + j) 0 = b.getD (a + j - d) 0) : cpy d n (b.take a) = b.take (a + n) := by
  induction n generalizing a with
  | zero => rfl
  | succ n ih =>
    rw [cpy]
    have h0 := h 0 (by omega)
    have e : (b.take a).getD ((b.take a).length - d) 0 = b.getD a 0 := by
      rw [List.length_take, Nat.min_eq_left (by omega)]
      rw [Nat.add_zero] at h0
      rw [h0]
      simp [List.getD, show a - d < a by omega]
    rw [e, take_snoc (by omega), ih (a + 1) (by omega) (by omega) (fun j hj => by
      have := h (j + 1) (by omega)
      rw [show a + 1 + j = a + (j + 1) by omega]; exact this)]
    congr 1
    omega
theorem ex1_lo {b : List Int} {a : Nat} (ha : a < b.length) : ex1 (b.take a) (loF b a) = b.take (a + (szT (loF b a)).toNat) := by
  rcases loF_fnd b a with ⟨e, -⟩ | ⟨d, h1, h2, e, h3, -, -⟩
  · rw [e]
    unfold ex1 szT
    simp only [if_true]
    rw [take_snoc ha]
    rfl
  · rw [e]
    have := lnT_le b a d
    unfold ex1 szT
    simp only
    rw [if_neg (by omega), if_neg (by omega)]
    exact cpy_take b d (lnT b a d) a h1 (by omega) (by omega) (fun j hj => cmn_eq b d a _ j hj)
/-- The greedy factorization stands for the bytes. -/
theorem exF_gre {b : List Int} (hb : Bytes b) (f a : Nat) (ha : a ≤ b.length) (hf : b.length ≤ a + f) : exF (b.take a) (gre b f a) = b := by
  induction f generalizing a with
  | zero => rw [gre, exF, List.take_of_length_le (by omega)]
  | succ f ih =>
    rw [gre]
    split
    · next h =>
      obtain ⟨-, -, h3, -⟩ := loF_ok hb h
      have h4 := szT_pos (loF b a)
      rw [exF, ex1_lo h]
      exact ih _ (by omega) (by omega)
    · rw [exF, List.take_of_length_le (by omega)]
end Go.Proofs.Ytjfdmhdmadnkoaa
