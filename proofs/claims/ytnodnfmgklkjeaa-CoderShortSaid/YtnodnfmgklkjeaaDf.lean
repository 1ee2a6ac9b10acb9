/- The plain law of CoderShort: how much a bit narrows the interval. -/
import Derived.Test.YtnodnfmgklkjeaaDe
import Derived.Test.YtnodnfmgklkjeaaCy
namespace Go.Proofs.Ytnodnfmgklkjeaa
open Go.RowKit
set_option linter.unusedVariables false

theorem lg_tab : (List.range 4095).all (fun i => decide (0 ≤ lg ((i + 1 : Nat) : Int)) && decide (lg ((i + 1 : Nat) : Int) ≤ 3072) && decide (2 ^ (lg ((i + 1 : Nat) : Int)).toNat ≤ (i + 1) ^ 256)) = true := by decide +kernel
theorem lg_small (q : Nat) (h0 : 1 ≤ q) (h1 : q ≤ 4095) : 0 ≤ lg (q : Int) ∧ lg (q : Int) ≤ 3072 ∧ 2 ^ (lg (q : Int)).toNat ≤ q ^ 256 := by
  have h := List.all_eq_true.mp lg_tab (q - 1) (by simp; omega)
  simp only [Bool.and_eq_true, decide_eq_true_eq] at h
  rw [show q - 1 + 1 = q by omega] at h
  exact ⟨h.1.1, h.1.2, h.2⟩
theorem cst_eq (p bit : Int) (h0 : 1 ≤ p) (h1 : p ≤ 4095) (hb : bit = 0 ∨ bit = 1) : ∃ q : Nat, 1 ≤ q ∧ q ≤ 4095 ∧ (q : Int) = (if bit = 1 then p else 4096 - p) ∧ cst p bit = 3072 - lg (q : Int) := by
  have hc : cl 1 4095 p = p := cl_id 1 4095 p h0 h1
  rcases hb with rfl | rfl
  · refine ⟨(4096 - p).toNat, by omega, by omega, ?_, ?_⟩
    · rw [if_neg (by decide)]; omega
    · unfold cst; rw [if_neg (by decide), hc, show (((4096 - p).toNat : Nat) : Int) = 4096 - p by omega]
  · refine ⟨p.toNat, by omega, by omega, ?_, ?_⟩
    · rw [if_pos rfl]; omega
    · unfold cst; rw [if_pos rfl, hc, show ((p.toNat : Nat) : Int) = p by omega]
theorem cst_bd (p bit : Int) (h0 : 1 ≤ p) (h1 : p ≤ 4095) (hb : bit = 0 ∨ bit = 1) : 0 ≤ cst p bit ∧ cst p bit ≤ 3072 := by
  obtain ⟨q, q0, q1, -, hq⟩ := cst_eq p bit h0 h1 hb
  have := lg_small q q0 q1
  omega
theorem part_wide (wd p bit : Int) (hw : 16777216 ≤ wd) (hw1 : wd ≤ 4294967295) (h0 : 1 ≤ p) (h1 : p ≤ 4095) (hb : bit = 0 ∨ bit = 1) :
    wd * 4095 * (if bit = 1 then p else 4096 - p) ≤ encWd wd p bit * 16777216 := by
  have hq : wd * 4095 ≤ wd / 4096 * 16777216 := by omega
  obtain ⟨d, hd⟩ : ∃ d, wd / 4096 = d := ⟨_, rfl⟩
  rw [hd] at hq
  rcases hb with rfl | rfl
  · unfold encWd
    rw [if_neg (by decide), if_neg (by decide), hd]
    have hdw : d * 4096 ≤ wd := by omega
    have e1 : d * 4096 * p ≤ wd * p := Int.mul_le_mul_of_nonneg_right hdw (by omega)
    have e2 : wd * 4095 * (4096 - p) ≤ wd * 4096 * (4096 - p) := by
      refine Int.mul_le_mul_of_nonneg_right ?_ (by omega)
      omega
    have e3 : wd * 4096 * (4096 - p) = wd * 16777216 - wd * p * 4096 := by
      rw [Int.mul_sub]
      have a1 : wd * 4096 * 4096 = wd * 16777216 := by omega
      have a2 : wd * 4096 * p = wd * p * 4096 := by rw [Int.mul_assoc, Int.mul_comm 4096 p, ← Int.mul_assoc]
      rw [a1, a2]
    have e4 : d * 4096 * p = d * p * 4096 := by rw [Int.mul_assoc, Int.mul_comm 4096 p, ← Int.mul_assoc]
    rw [e3] at e2
    rw [Int.sub_mul]
    omega
  · unfold encWd
    rw [if_pos rfl, if_pos rfl, hd]
    have e1 : wd * 4095 * p ≤ d * 16777216 * p := Int.mul_le_mul_of_nonneg_right hq (by omega)
    have e4 : d * 16777216 * p = d * p * 16777216 := by rw [Int.mul_assoc, Int.mul_comm 16777216 p, ← Int.mul_assoc]
    omega
theorem half_tab : 4096 ^ 256 ≤ 2 * 4095 ^ 256 := by decide +kernel
theorem pow_tab : 2 ^ 3072 = 4096 ^ 256 := by decide +kernel
theorem big_tab : 4096 ^ 256 * 4096 ^ 256 = 16777216 ^ 256 := by decide +kernel
/-- Of the width at most the cost is lost, and a 256th. -/
theorem part_pow (wd p bit : Int) (hw : 16777216 ≤ wd) (hw1 : wd ≤ 4294967295) (h0 : 1 ≤ p) (h1 : p ≤ 4095) (hb : bit = 0 ∨ bit = 1) :
    wd.toNat ^ 256 ≤ (encWd wd p bit).toNat ^ 256 * 2 ^ ((cst p bit).toNat + 1) := by
  obtain ⟨q, q0, q1, hq, hc⟩ := cst_eq p bit h0 h1 hb
  obtain ⟨l0, l1, l2⟩ := lg_small q q0 q1
  have hwb := encWd_bd wd p bit hw hw1 h0 h1
  have h := part_wide wd p bit hw hw1 h0 h1 hb
  rw [← hq] at h
  obtain ⟨W, hW⟩ : ∃ W : Nat, wd = W := ⟨wd.toNat, by omega⟩
  obtain ⟨E, hE⟩ : ∃ E : Nat, encWd wd p bit = E := ⟨(encWd wd p bit).toNat, by omega⟩
  rw [hE] at h ⊢
  rw [hW] at h
  rw [hW, Int.toNat_natCast, Int.toNat_natCast]
  have hn : W * 4095 * q ≤ E * 16777216 := by
    have : ((W * 4095 * q : Nat) : Int) ≤ ((E * 16777216 : Nat) : Int) := by simpa using h
    exact Int.ofNat_le.mp this
  have h2 := Nat.pow_le_pow_left hn 256
  rw [Nat.mul_pow, Nat.mul_pow, Nat.mul_pow] at h2
  obtain ⟨g, hg⟩ : ∃ g, (lg (q : Int)).toNat = g := ⟨_, rfl⟩
  obtain ⟨c, hcc⟩ : ∃ c, (cst p bit).toNat = c := ⟨_, rfl⟩
  rw [hg] at l2
  rw [hcc]
  have hgc : c + g = 3072 := by omega
  have h3 : 4096 ^ 256 ≤ q ^ 256 * 2 ^ c := by
    rw [← pow_tab, ← hgc, Nat.add_comm, Nat.pow_add]
    exact Nat.mul_le_mul_right _ l2
  -- all together
  generalize W ^ 256 = w at *
  generalize E ^ 256 = e at *
  generalize q ^ 256 = k at *
  rw [Nat.pow_succ]
  generalize 2 ^ c = t at *
  have ht := half_tab
  have hbg := big_tab
  generalize (4095 : Nat) ^ 256 = a at *
  generalize hb4 : (4096 : Nat) ^ 256 = b at *
  generalize (16777216 : Nat) ^ 256 = d at *
  have hb0 : 0 < b := by rw [← hb4]; exact Nat.pow_pos (by decide)
  clear hb4
  have s1 : w * a * b ≤ w * a * (k * t) := Nat.mul_le_mul_left _ h3
  have s2 : w * a * k * t ≤ e * d * t := Nat.mul_le_mul_right _ h2
  have s3 : w * b * b ≤ w * (2 * a) * b := Nat.mul_le_mul_right _ (Nat.mul_le_mul_left _ ht)
  have s4 : w * (2 * a) * b = 2 * (w * a * b) := by rw [Nat.mul_left_comm w 2 a, Nat.mul_assoc]
  have s5 : w * a * (k * t) = w * a * k * t := by rw [Nat.mul_assoc (w * a) k t]
  have s6 : w * (b * b) ≤ (e * (t * 2)) * (b * b) := by
    have a1 : w * (b * b) = w * b * b := by rw [Nat.mul_assoc]
    have a2 : (e * (t * 2)) * (b * b) = 2 * (e * d * t) := by
      rw [hbg]
      have : e * (t * 2) * d = e * d * t * 2 := by
        rw [Nat.mul_assoc e (t * 2) d, Nat.mul_assoc e d t, Nat.mul_assoc e (d * t) 2]
        congr 1
        rw [Nat.mul_comm (t * 2) d, Nat.mul_assoc]
      rw [this, Nat.mul_comm]
    rw [a1, a2]
    omega
  exact Nat.le_of_mul_le_mul_right s6 (Nat.mul_pos hb0 hb0)

/-- The shifts widen by whole bytes. -/
theorem shN_wd : ∀ (k : Nat) (wd lo : Int) (out : List Int), 0 < wd → ∃ j : Nat, (shN k wd lo out).1 = wd * 256 ^ j ∧ (shN k wd lo out).2.2.length = out.length + j := by
  intro k
  induction k with
  | zero => intro wd lo out h; exact ⟨0, by simp [shN], by simp [shN]⟩
  | succ k ih =>
    intro wd lo out h
    by_cases hs : wd < 16777216
    · rw [shN_small k _ _ _ hs]
      obtain ⟨j, h1, h2⟩ := ih (wd * 256 % 4294967296) (lo * 256 % 4294967296) (out ++ [lo / 16777216]) (by omega)
      refine ⟨j + 1, ?_, by rw [h2]; simp; omega⟩
      rw [h1, Int.emod_eq_of_lt (by omega) (by omega), Int.pow_succ, Int.mul_assoc, Int.mul_comm 256]
    · rw [shN_stop _ _ _ _ (by omega)]
      exact ⟨0, by simp, by simp⟩
theorem pow_2048 (j : Nat) : (256 ^ j : Nat) ^ 256 = 2 ^ (2048 * j) := by
  rw [show (256 : Nat) = 2 ^ 8 by decide, ← Nat.pow_mul, ← Nat.pow_mul]
  congr 1
  omega
theorem enc_pow (s : St) (h : SInv s) (x : Int × Int) (hx : Step x) :
    s.1.toNat ^ 256 * 2 ^ (2048 * ((encS s x).2.2.length - s.2.2.length)) ≤ (encS s x).1.toNat ^ 256 * 2 ^ ((cst x.2 x.1).toNat + 1) ∧ s.2.2.length ≤ (encS s x).2.2.length := by
  obtain ⟨p1, p2, p3⟩ := part_base s.1 s.2.1 x.1 x.2 s.2.2 h.1 h.2 hx.2.1 hx.2.2 hx.1
  have hwb := encWd_bd s.1 x.2 x.1 h.2 h.1.w1 hx.2.1 hx.2.2
  obtain ⟨j, h1, h2⟩ := shN_wd 3 (encWd s.1 x.2 x.1) (encLo s.1 s.2.1 x.2 x.1) (encL s.1 s.2.1 x.2 x.1 s.2.2) (by omega)
  rw [p2] at h2
  have e1 : (encS s x).1 = encWd s.1 x.2 x.1 * 256 ^ j := h1
  have e2 : (encS s x).2.2.length = s.2.2.length + j := h2
  refine ⟨?_, by omega⟩
  have hp := part_pow s.1 x.2 x.1 h.2 h.1.w1 hx.2.1 hx.2.2 hx.1
  rw [e2, show s.2.2.length + j - s.2.2.length = j by omega, e1]
  have e3 : (encWd s.1 x.2 x.1 * 256 ^ j).toNat = (encWd s.1 x.2 x.1).toNat * 256 ^ j := by
    obtain ⟨E, hE⟩ : ∃ E : Nat, encWd s.1 x.2 x.1 = E := ⟨(encWd s.1 x.2 x.1).toNat, by omega⟩
    rw [hE]
    have : ((E : Int) * 256 ^ j) = ((E * 256 ^ j : Nat) : Int) := by simp
    rw [this, Int.toNat_natCast, Int.toNat_natCast]
  rw [e3, Nat.mul_pow, pow_2048]
  generalize 2 ^ (2048 * j) = t
  rw [Nat.mul_right_comm]
  exact Nat.mul_le_mul_right _ hp
/-- The costs of the first steps. -/
def costs (l : List (Bool × Int)) : Nat → Int
  | 0 => 0
  | k + 1 => costs l k + cst (pOf (l.getD k (false, 0))) (bitOf (l.getD k (false, 0)))
theorem costs_bd (l : List (Bool × Int)) (k : Nat) : 0 ≤ costs l k ∧ costs l k ≤ 3072 * k := by
  induction k with
  | zero => simp [costs]
  | succ k ih =>
    have hs := step_ok (l.getD k (false, 0))
    have := cst_bd _ _ hs.2.1 hs.2.2 hs.1
    simp only [stepOf] at this
    simp only [costs]
    omega
theorem stAt_pow (l : List (Bool × Int)) (k : Nat) (hk : k ≤ l.length) :
    4294967295 ^ 256 * 2 ^ (2048 * (stAt l k).2.2.length) ≤ (stAt l k).1.toNat ^ 256 * 2 ^ ((costs l k).toNat + k) := by
  induction k with
  | zero => simp [stAt, encs, s0, costs]
  | succ k ih =>
    have ih := ih (by omega)
    have hs := step_ok (l.getD k (false, 0))
    have hc := cst_bd _ _ hs.2.1 hs.2.2 hs.1
    have hcs := costs_bd l k
    obtain ⟨h1, h2⟩ := enc_pow (stAt l k) (stAt_inv l k) (stepOf (l.getD k (false, 0))) hs
    rw [← stAt_succ l k (by omega)] at h1 h2
    have e : (costs l (k + 1)).toNat + (k + 1) = ((costs l k).toNat + k) + ((cst (stepOf (l.getD k (false, 0))).2 (stepOf (l.getD k (false, 0))).1).toNat + 1) := by
      have : costs l (k + 1) = costs l k + cst (stepOf (l.getD k (false, 0))).2 (stepOf (l.getD k (false, 0))).1 := rfl
      rw [this]
      omega
    rw [e]
    obtain ⟨A, hA⟩ : ∃ A, (stAt l k).2.2.length = A := ⟨_, rfl⟩
    obtain ⟨B, hB⟩ : ∃ A, (stAt l (k + 1)).2.2.length = A := ⟨_, rfl⟩
    rw [hA] at h1 h2 ih
    rw [hB] at h1 h2 ⊢
    rw [show 2048 * B = 2048 * A + 2048 * (B - A) by omega]
    rw [Nat.pow_add 2 (2048 * A), Nat.pow_add 2 ((costs l k).toNat + k)]
    generalize 2 ^ (2048 * A) = a at *
    generalize 2 ^ (2048 * (B - A)) = b at *
    generalize 2 ^ ((costs l k).toNat + k) = c at *
    generalize 2 ^ ((cst (stepOf (l.getD k (false, 0))).2 (stepOf (l.getD k (false, 0))).1).toNat + 1) = d at *
    generalize (stAt l k).1.toNat ^ 256 = w at *
    generalize (stAt l (k + 1)).1.toNat ^ 256 = v at *
    generalize (4294967295 : Nat) ^ 256 = z at *
    have t1 : z * a * b ≤ w * c * b := Nat.mul_le_mul_right _ ih
    have t2 : w * b * c ≤ v * d * c := Nat.mul_le_mul_right _ h1
    have t3 : w * c * b = w * b * c := Nat.mul_right_comm _ _ _
    have t4 : v * d * c = v * (c * d) := by rw [Nat.mul_assoc, Nat.mul_comm d c]
    rw [← Nat.mul_assoc z a b]
    omega
theorem low_tab (n : Nat) (h : n = 7936) : 2 ^ n ≤ 4294967295 ^ 256 := by subst h; decide +kernel
theorem up_tab (n x : Nat) (h : n = 8192) (hx : x ≤ 4294967296) : x ^ 256 ≤ 2 ^ n := by
  have := Nat.pow_le_pow_left hx 256
  rw [show (4294967296 : Nat) = 2 ^ 32 by decide, ← Nat.pow_mul, show 32 * 256 = n by omega] at this
  exact this
theorem short (l : List (Bool × Int)) : 2048 * ((codeOf l).length : Int) ≤ costs l l.length + l.length + 2304 := by
  have h := stAt_pow l l.length (Nat.le_refl _)
  have hi := (stAt_inv l l.length).1
  have hcs := costs_bd l l.length
  have h1 := trim_len (finL (stAt l l.length).2.1 (stAt l l.length).1 (stAt l l.length).2.2)
  have h2 := finL_len (stAt l l.length).2.1 (stAt l l.length).1 (stAt l l.length).2.2
  have hlen : (codeOf l).length ≤ (stAt l l.length).2.2.length + 1 := by unfold codeOf; omega
  obtain ⟨n1, hn1⟩ : ∃ n : Nat, n = 8192 := ⟨_, rfl⟩
  obtain ⟨n0, hn0⟩ : ∃ n : Nat, n = 7936 := ⟨_, rfl⟩
  have hw := up_tab n1 (stAt l l.length).1.toNat hn1 (by have a := hi.w0; have b := hi.w1; omega)
  have hw0 := low_tab n0 hn0
  obtain ⟨A, hA⟩ : ∃ A, (stAt l l.length).2.2.length = A := ⟨_, rfl⟩
  rw [hA] at h hlen
  obtain ⟨c, hc⟩ : ∃ c, (costs l l.length).toNat = c := ⟨_, rfl⟩
  rw [hc] at h
  have t1 : 2 ^ n0 * 2 ^ (2048 * A) ≤ 2 ^ n1 * 2 ^ (c + l.length) :=
    Nat.le_trans (Nat.mul_le_mul_right _ hw0) (Nat.le_trans h (Nat.mul_le_mul_right _ hw))
  rw [← Nat.pow_add, ← Nat.pow_add] at t1
  have := (Nat.pow_le_pow_iff_right (by decide : 1 < 2)).1 t1
  omega
end Go.Proofs.Ytnodnfmgklkjeaa
