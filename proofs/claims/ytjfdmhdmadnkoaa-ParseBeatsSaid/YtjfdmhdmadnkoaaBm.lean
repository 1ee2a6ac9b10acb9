/- Gamma codes one behind another: the plain law. -/
import Derived.Test.YtjfdmhdmadnkoaaBl
namespace Go.Proofs.Ytjfdmhdmadnkoaa
open Go.RowKit
set_option linter.unusedVariables false

theorem low_succ (v : Int) (n : Nat) (hv : 0 ≤ v) : low v (n + 1) = low (v / 2) n ++ [v % 2] := by
  unfold low
  rw [List.range_succ, List.map_append, List.map_singleton]
  congr 1
  · apply List.map_congr_left
    intro j hj
    have hj := List.mem_range.1 hj
    rw [Int.ediv_ediv_of_nonneg (by omega), show n + 1 - 1 - j = (n - 1 - j) + 1 by omega, Int.pow_succ, Int.mul_comm]
  · simp
theorem num_low (n : Nat) (v : Int) (hv : 0 ≤ v) : num (low v n) = v % 2 ^ n := by
  induction n generalizing v with
  | zero => simp [low, num]
  | succ n ih =>
    rw [low_succ v n hv, num_snoc, ih (v / 2) (Int.ediv_nonneg hv (by decide)), Int.pow_succ]
    have hp := pow2_pos n
    have e := Int.mul_ediv_add_emod (v / 2) (2 ^ n)
    have e2 := Int.mul_ediv_add_emod v 2
    have h0 := Int.emod_nonneg (v / 2) (show (2 : Int) ^ n ≠ 0 by omega)
    have h1 := Int.emod_lt_of_pos (v / 2) hp
    obtain ⟨q, hq⟩ : ∃ q, v / 2 / 2 ^ n = q := ⟨_, rfl⟩
    obtain ⟨r, hr⟩ : ∃ r, v / 2 % 2 ^ n = r := ⟨_, rfl⟩
    rw [hq, hr] at e
    rw [hr] at h0 h1 ⊢
    have e3 : v = (r * 2 + v % 2) + (2 ^ n * 2) * q := by
      have : 2 ^ n * 2 * q = 2 * (2 ^ n * q) := by rw [Int.mul_comm (2 ^ n) 2, Int.mul_assoc]
      omega
    have e4 : v % (2 ^ n * 2) = (r * 2 + v % 2) % (2 ^ n * 2) := by
      conv => lhs; rw [e3]
      rw [Int.add_mul_emod_self_left]
    rw [e4, Int.emod_eq_of_lt (a := r * 2 + v % 2) (b := 2 ^ n * 2) (by omega) (by omega)]
theorem bitLen_spec (n : Nat) (h0 : n ≠ 0) (h1 : n < 2 ^ 64) : 1 ≤ Lib.bitLen n ∧ 2 ^ (Lib.bitLen n - 1) ≤ n ∧ n < 2 ^ Lib.bitLen n := Lib.bitLenAux_bounds 64 n h1 h0
theorem bitLen_int (v : Int) (h0 : 1 ≤ v) (h1 : v ≤ 2147483647) (m : Nat) (h : Lib.bitLen v.toNat = m + 1) : (2 : Int) ^ m ≤ v ∧ v < 2 ^ (m + 1) := by
  obtain ⟨b1, b2, b3⟩ := bitLen_spec v.toNat (by omega) (by omega)
  rw [h] at b2 b3
  have c2 : ((2 ^ m : Nat) : Int) ≤ (v.toNat : Int) := Int.ofNat_le.mpr b2
  have c3 : (v.toNat : Int) < ((2 ^ (m + 1) : Nat) : Int) := Int.ofNat_lt.mpr b3
  rw [Int.natCast_pow] at c2 c3
  refine ⟨?_, ?_⟩
  · have : (2 : Int) ^ m ≤ (v.toNat : Int) := c2
    omega
  · have : (v.toNat : Int) < (2 : Int) ^ (m + 1) := c3
    omega
theorem num_gam (v : Int) (h0 : 1 ≤ v) (h1 : v ≤ 2147483647) (m : Nat) (h : Lib.bitLen v.toNat = m + 1) : num (low v (m + 1)) = v := by
  obtain ⟨c1, c2⟩ := bitLen_int v h0 h1 m h
  rw [num_low _ _ (by omega), Int.emod_eq_of_lt (by omega) c2]
theorem gam_get (v : Int) (h0 : 1 ≤ v) (h1 : v ≤ 2147483647) (m : Nat) (h : Lib.bitLen v.toNat = m + 1) :
    (∀ j, j < m → (gam v).getD j 0 = 0) ∧ (gam v).getD m 0 = 1 ∧ (∀ j, j < m + 1 → (gam v).getD (m + j) 0 = (low v (m + 1)).getD j 0) := by
  obtain ⟨c1, c2⟩ := bitLen_int v h0 h1 m h
  have hg : gam v = low 0 m ++ low v (m + 1) := by unfold gam; rw [h]; rfl
  have hl := low_len 0 m
  have third : ∀ j, j < m + 1 → (gam v).getD (m + j) 0 = (low v (m + 1)).getD j 0 := by
    intro j hj
    rw [hg]
    simp only [List.getD]
    rw [List.getElem?_append_right (by rw [hl]; omega), hl, show m + j - m = j by omega]
  refine ⟨fun j hj => ?_, ?_, third⟩
  · rw [hg]
    simp only [List.getD]
    rw [List.getElem?_append_left (by rw [hl]; exact hj)]
    simp [low, hj]
  · have := third 0 (by omega)
    rw [Nat.add_zero] at this
    rw [this]
    have e : v / 2 ^ m = 1 := by
      have hp := pow2_pos m
      have a1 : 1 ≤ v / 2 ^ m := Int.le_ediv_of_mul_le hp (by omega)
      have a2 : v / 2 ^ m < 2 := Int.ediv_lt_of_lt_mul hp (by rw [Int.pow_succ] at c2; omega)
      omega
    simp [low, e]
theorem getD_app_r (X Y : List Int) (j : Nat) : (X ++ Y).getD (X.length + j) 0 = Y.getD j 0 := by
  simp only [List.getD]
  rw [List.getElem?_append_right (by omega), show X.length + j - X.length = j by omega]
theorem getD_app_l (X Y : List Int) (j : Nat) (h : j < X.length) : (X ++ Y).getD j 0 = X.getD j 0 := by
  simp only [List.getD]
  rw [List.getElem?_append_left h]
/-- A gamma code in the midst of bits is read. -/
theorem rg_reads (X : List Int) (hX : Bits01 X) (hc : X.length ≤ 524288) (a : Nat) (v : Int) (h0 : 1 ≤ v) (h1 : v ≤ 2147483647) (m : Nat) (h : Lib.bitLen v.toNat = m + 1) (hm : m ≤ 30)
    (hat : ∀ j, j < 2 * m + 1 → X.getD (a + j) 0 = (gam v).getD j 0) (hend : a + (2 * m + 1) ≤ X.length) :
    rgF (pshs [] 0 X) X.length a = (0, v, (a : Int) + 2 * (m : Int) + 1) := by
  have hwf := WF.pshs WF.nil hX
  rw [Nat.zero_add] at hwf
  have hgb : ∀ i, gb (pshs [] 0 X) i = X.getD i 0 := by
    intro i
    rw [gb_pshs WF.nil hX]
    simp
  obtain ⟨g1, g2, g3⟩ := gam_get v h0 h1 m h
  have hz : zr (pshs [] 0 X) a (X.length - a) = m := by
    refine zr_is _ _ _ _ (by omega) (fun j hj => ?_) (fun _ => ?_)
    · rw [hgb, hat j (by omega), g1 j hj]
    · rw [hgb, hat m (by omega), g2]
  unfold rgF
  rw [if_neg (by rw [wf_chkb hwf hc]; decide), if_neg (by omega)]
  simp only [Int.toNat_natCast, hz]
  rw [if_neg (by omega), if_neg (by omega), if_neg (by omega)]
  have hcut : cut (pshs [] 0 X) (a + m) (m + 1) = low v (m + 1) := by
    apply List.ext_getElem
    · rw [cut_len, low_len]
    · intro j j1 j2
      have j3 : j < m + 1 := by rw [cut_len] at j1; exact j1
      have e1 := cut_get (pshs [] 0 X) (a + m) (m + 1) j j3
      rw [hgb, show a + m + j = a + (m + j) by omega, hat (m + j) (by omega), g3 j j3] at e1
      simp only [List.getD, List.getElem?_eq_getElem j1, List.getElem?_eq_getElem j2, Option.getD_some] at e1
      exact e1
  rw [hcut, num_gam v h0 h1 m h]

/-- The numbers of the law. -/
def mv (n : Int) : Int := n % 2147483647 + 1
theorem mv_bd (n : Int) : 1 ≤ mv n ∧ mv n ≤ 2147483647 := by unfold mv; omega
def codes (l : List Int) : List Int := l.flatMap fun n => gam (mv n)
theorem codes_snoc (l : List Int) (x : Int) : codes (l ++ [x]) = codes l ++ gam (mv x) := by simp [codes]
theorem codes_01 (l : List Int) : Bits01 (codes l) := by
  intro x hx
  obtain ⟨n, _, h⟩ := List.mem_flatMap.1 hx
  exact gam_01 _ x h
def dg (n : Int) : Nat := Lib.bitLen (mv n).toNat
theorem dg_ex (n : Int) : ∃ m, dg n = m + 1 ∧ m ≤ 30 ∧ (gam (mv n)).length = 2 * m + 1 := by
  obtain ⟨m, h1, h2⟩ := len_ex (mv n) (mv_bd n).1 (mv_bd n).2
  exact ⟨m, h1, h2, gam_len _ m h1⟩
theorem codes_len (l : List Int) : (codes l).length ≤ 61 * l.length := by
  induction l with
  | nil => simp [codes]
  | cons x l ih =>
    obtain ⟨m, h1, h2, h3⟩ := dg_ex x
    simp only [codes, List.flatMap_cons, List.length_append] at ih ⊢
    rw [h3, List.length_cons]
    omega
def cAt (l : List Int) (k : Nat) : List Int := codes (l.take k)
theorem cAt_succ (l : List Int) (k : Nat) (hk : k < l.length) : cAt l (k + 1) = cAt l k ++ gam (mv (l.getD k 0)) := by
  unfold cAt
  rw [List.take_succ_eq_append_getElem hk, codes_snoc]
  simp [List.getD, hk]
theorem cAt_len (l : List Int) (k : Nat) (hl : l.length ≤ 20) : (cAt l k).length ≤ 1220 := by
  have := codes_len (l.take k)
  have h2 : (l.take k).length ≤ 20 := by rw [List.length_take]; omega
  unfold cAt
  omega
theorem cAt_gam (l : List Int) (k : Nat) (hk : k < l.length) (hl : l.length ≤ 20) :
    gamF (pshs [] 0 (cAt l k)) (cAt l k).length (mv (l.getD k 0)) = (0, pshs [] 0 (cAt l (k + 1)), (cAt l (k + 1)).length) ∧ (cAt l (k + 1)).length = (cAt l k).length + (2 * dg (l.getD k 0) - 1) := by
  obtain ⟨m, h1, h2, h3⟩ := dg_ex (l.getD k 0)
  have hb := mv_bd (l.getD k 0)
  have hlen := cAt_len l k hl
  have hwf := WF.pshs WF.nil (codes_01 (l.take k))
  rw [Nat.zero_add] at hwf
  have hwf : WF (pshs [] 0 (cAt l k)) (cAt l k).length := hwf
  have e1 : (cAt l (k + 1)).length = (cAt l k).length + (2 * m + 1) := by rw [cAt_succ l k hk, List.length_append, h3]
  have h1' : Lib.bitLen (mv (l.getD k 0)).toNat = m + 1 := h1
  refine ⟨?_, by rw [e1, h1]; omega⟩
  unfold gamF
  rw [if_neg (by rw [wf_chkb hwf (by omega)]; decide), if_neg (by omega), if_neg (by rw [h1']; omega)]
  rw [h1', e1, cAt_succ l k hk, pshs_app, Nat.zero_add]
  simp only [Int.toNat_natCast]
  congr 2
theorem cAt_read (l : List Int) (k : Nat) (hk : k < l.length) (hl : l.length ≤ 20) :
    rgF (pshs [] 0 (cAt l l.length)) (cAt l l.length).length (cAt l k).length = (0, mv (l.getD k 0), ((cAt l (k + 1)).length : Int)) ∧ (cAt l k).length < (cAt l (k + 1)).length := by
  obtain ⟨m, h1, h2, h3⟩ := dg_ex (l.getD k 0)
  have hb := mv_bd (l.getD k 0)
  have hlen := cAt_len l l.length hl
  have e1 : (cAt l (k + 1)).length = (cAt l k).length + (2 * m + 1) := by rw [cAt_succ l k hk, List.length_append, h3]
  have hsplit : cAt l l.length = cAt l k ++ (gam (mv (l.getD k 0)) ++ codes (l.drop (k + 1))) := by
    have : l.take l.length = l.take k ++ (l.getD k 0 :: l.drop (k + 1)) := by
      rw [List.take_length]
      conv => lhs; rw [← List.take_append_drop k l]
      congr 1
      rw [List.drop_eq_getElem_cons hk]
      simp [List.getD, hk]
    unfold cAt
    rw [this]
    simp [codes]
  refine ⟨?_, by omega⟩
  have hX : Bits01 (cAt l l.length) := codes_01 _
  have := rg_reads (cAt l l.length) hX (by omega) (cAt l k).length (mv (l.getD k 0)) hb.1 hb.2 m h1 h2 (fun j hj => by
    rw [hsplit, getD_app_r, getD_app_l _ _ _ (by rw [h3]; exact hj)]) (by rw [hsplit, List.length_append, List.length_append, h3]; omega)
  rw [this, e1]
  congr 2
theorem dg_div (n : Int) (d : Nat) : (0 < mv n / 2 ^ d ↔ d < dg n) := by
  have hb := mv_bd n
  obtain ⟨m, h1, h2, h3⟩ := dg_ex n
  obtain ⟨c1, c2⟩ := bitLen_int (mv n) hb.1 hb.2 m h1
  have hp := pow2_pos d
  rw [h1]
  constructor
  · intro h
    rcases Nat.lt_or_ge d (m + 1) with hd | hd
    · exact hd
    · exfalso
      have e : (2 : Int) ^ (m + 1) ≤ 2 ^ d := by
        have := Nat.pow_le_pow_right (show 0 < 2 by decide) hd
        have h3 : ((2 ^ (m + 1) : Nat) : Int) ≤ ((2 ^ d : Nat) : Int) := Int.ofNat_le.mpr this
        rw [Int.natCast_pow, Int.natCast_pow] at h3
        exact h3
      have : mv n / 2 ^ d = 0 := Int.ediv_eq_zero_of_lt (by omega) (by omega)
      omega
  · intro h
    have e : (2 : Int) ^ d ≤ 2 ^ m := by
      have := Nat.pow_le_pow_right (show 0 < 2 by decide) (show d ≤ m by omega)
      have h3 : ((2 ^ d : Nat) : Int) ≤ ((2 ^ m : Nat) : Int) := Int.ofNat_le.mpr this
      rw [Int.natCast_pow, Int.natCast_pow] at h3
      exact h3
    have : 1 ≤ mv n / 2 ^ d := Int.le_ediv_of_mul_le hp (by omega)
    omega
theorem dg_half (n : Int) (d : Nat) : mv n / 2 ^ d / 2 = mv n / 2 ^ (d + 1) := by
  rw [Int.ediv_ediv_of_nonneg (Int.le_of_lt (pow2_pos d)), Int.pow_succ]
end Go.Proofs.Ytjfdmhdmadnkoaa
