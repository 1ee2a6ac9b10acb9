/- Layer 35: decoding reverses encoding, plainly. -/
import Derived.Test.YtjfdmhdmadnkoaaLp
namespace Go.Proofs.Ytjfdmhdmadnkoaa
open Go.RowKit
set_option linter.unusedVariables false

theorem snoc_ind {p : List Int → Prop} (h0 : p []) (h1 : ∀ xs x, p xs → p (xs ++ [x])) (l : List Int) : p l := by
  rw [← List.reverse_reverse l]
  induction l.reverse with
  | nil => exact h0
  | cons x xs ih => rw [List.reverse_cons]; exact h1 _ _ ih
theorem num_zero {xs : List Int} (h : ∀ x ∈ xs, x = 0) : num xs = 0 := by
  induction xs using snoc_ind with
  | h0 => rfl
  | h1 xs x ih =>
    rw [num_snoc, ih (fun y hy => h y (List.mem_append_left _ hy)), h x (by simp)]
    rfl
theorem zero_num {xs : List Int} (hx : Bits01 xs) (h : num xs = 0) : ∀ x ∈ xs, x = 0 := by
  induction xs using snoc_ind with
  | h0 => intro x hx; cases hx
  | h1 xs x ih =>
    rw [num_snoc] at h
    have h1 := num_bd (fun y hy => hx y (List.mem_append_left _ hy) : Bits01 xs)
    have h2 := hx x (by simp)
    have h3 : num xs = 0 := by omega
    intro y hy
    rcases List.mem_append.1 hy with hy | hy
    · exact ih (fun z hz => hx z (List.mem_append_left _ hz)) h3 y hy
    · simp at hy; omega
theorem num_lowv (v : Int) (n : Nat) (h0 : 0 ≤ v) (h1 : v < 2 ^ n) : num (low v n) = v := by rw [num_low n v h0, Int.emod_eq_of_lt h0 h1]
/-- Bits are those of their number. -/
theorem low_num {xs : List Int} (h : Bits01 xs) : low (num xs) xs.length = xs := by
  induction xs using snoc_ind with
  | h0 => rfl
  | h1 xs x ih =>
    have h1 : Bits01 xs := fun y hy => h y (List.mem_append_left _ hy)
    have h2 := h x (by simp)
    have h3 := num_bd h1
    rw [List.length_append, List.length_singleton, num_snoc, low_succ _ _ (by omega), show (num xs * 2 + x) / 2 = num xs by omega, show (num xs * 2 + x) % 2 = x by omega, ih h1]
theorem cut_app (D : List Int) (a m n : Nat) : cut D a (m + n) = cut D a m ++ cut D (a + m) n := by
  induction n with
  | zero => simp [cut]
  | succ n ih => rw [← Nat.add_assoc, cut_succ, ih, cut_succ, List.append_assoc, Nat.add_assoc]
theorem cut_one (D : List Int) (a : Nat) : cut D a 1 = [gb D a] := by simp [cut]
theorem cut_of {D X : List Int} {a : Nat} (h : ∀ j, j < X.length → gb D (a + j) = X.getD j 0) : cut D a X.length = X := by
  apply List.ext_getElem
  · rw [cut_len]
  · intro j j1 j2
    have e := cut_get D a X.length j j2
    rw [h j j2] at e
    simp only [List.getD, List.getElem?_eq_getElem j1, List.getElem?_eq_getElem j2, Option.getD_some] at e
    exact e
theorem of_cut {D X : List Int} {a : Nat} (h : cut D a X.length = X) (j : Nat) (hj : j < X.length) : gb D (a + j) = X.getD j 0 := by
  rw [← cut_get D a X.length j hj, h]
/-- A gamma code that stands at a place is read. -/
theorem rg_at {D : List Int} (hb : Bytes D) (hl : D.length ≤ 65536) (a : Nat) (v : Int) (h0 : 1 ≤ v) (h1 : v ≤ 2147483647) (hat : cut D a (gam v).length = gam v) (hend : a + (gam v).length ≤ 8 * D.length) :
    rgF D ((8 * D.length : Nat) : Int) a = (0, v, (a : Int) + ((gam v).length : Int)) := by
  obtain ⟨m, h, hm⟩ := len_ex v h0 h1
  have hgl := gam_len v m h
  have hat' := fun j hj => of_cut hat j hj
  rw [hgl] at hend hat' ⊢
  obtain ⟨g1, g2, g3⟩ := gam_get v h0 h1 m h
  have hz : zr D a (8 * D.length - a) = m := by
    refine zr_is _ _ _ _ (by omega) (fun j hj => ?_) (fun _ => ?_)
    · rw [hat' j (by omega), g1 j hj]
    · rw [hat' m (by omega), g2]
  unfold rgF
  rw [if_neg (by rw [wf_chkb (wf_whole hb) (by omega)]; decide), if_neg (by omega)]
  simp only [Int.toNat_natCast, hz]
  rw [if_neg (by omega), if_neg (by omega), if_neg (by omega)]
  have hcut : cut D (a + m) (m + 1) = low v (m + 1) := by
    have e := low_len v (m + 1)
    conv => lhs; rw [← e]
    refine cut_of (fun j hj => ?_)
    rw [e] at hj
    rw [show a + m + j = a + (m + j) by omega, hat' (m + j) (by omega), g3 j hj]
  rw [hcut, num_gam v h0 h1 m h]
  simp only [Prod.mk.injEq, true_and]
  omega
/-- What is read as a gamma code is one. -/
theorem rg_is {D : List Int} (hb : Bytes D) (hl : D.length ≤ 65536) (a : Nat) (h : (rgF D ((8 * D.length : Nat) : Int) a).1 = 0) :
    1 ≤ (rgF D ((8 * D.length : Nat) : Int) a).2.1 ∧ (rgF D ((8 * D.length : Nat) : Int) a).2.1 ≤ 2147483647 ∧ cut D a (gam (rgF D ((8 * D.length : Nat) : Int) a).2.1).length = gam (rgF D ((8 * D.length : Nat) : Int) a).2.1 ∧
    (rgF D ((8 * D.length : Nat) : Int) a).2.2 = (a : Int) + ((gam (rgF D ((8 * D.length : Nat) : Int) a).2.1).length : Int) := by
  unfold rgF at h ⊢
  rw [if_neg (by rw [wf_chkb (wf_whole hb) (by omega)]; decide), if_neg (by omega)] at h ⊢
  simp only [Int.toNat_natCast] at h ⊢
  obtain ⟨z1, z2, z3⟩ := zr_spec D (8 * D.length - a) a
  obtain ⟨z, hz⟩ : ∃ z, zr D a (8 * D.length - a) = z := ⟨_, rfl⟩
  rw [hz] at h z1 z2 z3 ⊢
  split at h
  · exact absurd h (by decide)
  · next k1 =>
    rw [if_neg k1]
    split at h
    · exact absurd h (by decide)
    · next k2 =>
      rw [if_neg k2]
      split at h
      · exact absurd h (by decide)
      · next k3 =>
        rw [if_neg k3]
        have z4 := z3 (by omega)
        have hc : cut D (a + z) (z + 1) = 1 :: cut D (a + z + 1) z := by rw [Nat.add_comm z 1, cut_app, cut_one, z4]; rfl
        have hn := num_bd (cut_01 D (a + z) (z + 1))
        rw [cut_len] at hn
        have hlow := low_num (cut_01 D (a + z) (z + 1))
        rw [cut_len] at hlow
        obtain ⟨v, hv⟩ : ∃ v, num (cut D (a + z) (z + 1)) = v := ⟨_, rfl⟩
        have hge : (2 : Int) ^ z ≤ v := by
          have e : (cut D (a + z) (z + 1)).getD 0 0 = gb D (a + z) := cut_get D (a + z) (z + 1) 0 (by omega)
          rw [z4, ← hlow, hv] at e
          simp only [low, List.getD, List.getElem?_map] at e
          rw [List.getElem?_range (by omega)] at e
          simp at e
          have hp := pow2_pos z
          rcases Int.lt_or_le v (2 ^ z) with h5 | h5
          · rw [Int.ediv_eq_zero_of_lt (by omega) h5] at e
            exact absurd e (by decide)
          · exact h5
        have hp31 : (2 : Int) ^ (z + 1) ≤ 2 ^ 31 := by
          have := Nat.pow_le_pow_right (show 0 < 2 by decide) (show z + 1 ≤ 31 by omega)
          have h3 : ((2 ^ (z + 1) : Nat) : Int) ≤ ((2 ^ 31 : Nat) : Int) := Int.ofNat_le.mpr this
          simpa using h3
        have hp0 := pow2_pos z
        rw [hv] at hn hlow ⊢
        have v1 : 1 ≤ v := by omega
        have v2 : v ≤ 2147483647 := by omega
        obtain ⟨m, hm, -⟩ := len_ex v v1 v2
        obtain ⟨c1, c2⟩ := bitLen_int v v1 v2 m hm
        have hmz : m = z := by
          rcases Nat.lt_trichotomy m z with g | g | g
          · exfalso
            have : (2 : Int) ^ (m + 1) ≤ 2 ^ z := by
              have := Nat.pow_le_pow_right (show 0 < 2 by decide) (show m + 1 ≤ z by omega)
              have h3 : ((2 ^ (m + 1) : Nat) : Int) ≤ ((2 ^ z : Nat) : Int) := Int.ofNat_le.mpr this
              simpa using h3
            omega
          · exact g
          · exfalso
            have : (2 : Int) ^ (z + 1) ≤ 2 ^ m := by
              have := Nat.pow_le_pow_right (show 0 < 2 by decide) (show z + 1 ≤ m by omega)
              have h3 : ((2 ^ (z + 1) : Nat) : Int) ≤ ((2 ^ m : Nat) : Int) := Int.ofNat_le.mpr this
              simpa using h3
            omega
        subst hmz
        have hg : gam v = low 0 m ++ low v (m + 1) := by unfold gam; rw [hm]; rfl
        have hgl := gam_len v m hm
        have hl0 : cut D a m = low 0 m := by
          have e := low_len 0 m
          conv => lhs; rw [← e]
          refine cut_of (fun j hj => ?_)
          rw [e] at hj
          rw [z2 j hj]
          simp [low, List.getD, hj]
        refine ⟨v1, v2, ?_, ?_⟩
        · rw [hgl, hg, show 2 * m + 1 = m + (m + 1) by omega, cut_app, hl0, hlow]
        · rw [hgl]
          simp only
          omega

/-- A token's bits that stand at a place are read. -/
theorem nx_at {D : List Int} (hb : Bytes D) (hl : D.length ≤ 65536) (a : Nat) (t : Int × Int × Int) (hw : ¬ Wr t) (hB0 : 0 ≤ t.2.2) (hB1 : t.2.2 ≤ 255) (hat : cut D a (tb t).length = tb t) (hend : a + (tb t).length ≤ 8 * D.length) :
    nxF D a = (0, t, (a : Int) + ((tb t).length : Int)) := by
  obtain ⟨L, Ds, B⟩ := t
  simp only at hB0 hB1
  by_cases h0 : L = 0
  · subst h0
    have hD := Wr_lit hw rfl
    simp only at hD
    subst hD
    have htb : tb (0, 0, B) = low B 9 := by unfold tb; simp
    rw [htb, low_len] at hat hend ⊢
    have h9 : low B 9 = 0 :: low B 8 := by
      have : B / 256 % 2 = 0 := by omega
      simp [low, List.range_succ]
      omega
    rw [h9, show (9 : Nat) = 1 + 8 from rfl, cut_app, cut_one] at hat
    simp only [List.cons_append, List.nil_append, List.cons.injEq] at hat
    obtain ⟨e0, e1⟩ := hat
    have g1 : getF D a 1 = (0, 0) := by unfold getF; rw [if_neg (by omega), cut_one, e0]; rfl
    have g2 : getF D (a + 1) 8 = (0, B) := by
      unfold getF
      rw [if_neg (by omega), e1, num_lowv B 8 hB0 (by show B < 256; omega)]
    unfold nxF
    rw [g1, g2, if_neg (by simp), if_pos rfl]
    rfl
  · obtain ⟨u1, u2, u3, u4, u5⟩ := Wr_copy hw h0
    simp only at u1 u2 u3 u4 u5
    subst u1
    have htb : tb (L, Ds, 0) = 1 :: (gam (L - 1) ++ gam Ds) := by unfold tb; rw [if_neg h0]
    rw [htb, List.length_cons, List.length_append] at hat hend ⊢
    rw [Nat.add_comm, cut_app, cut_one, cut_app] at hat
    simp only [List.cons_append, List.nil_append, List.cons.injEq] at hat
    obtain ⟨e0, e1⟩ := hat
    obtain ⟨e2, e3⟩ := List.append_inj e1 (by rw [cut_len])
    have g1 : getF D a 1 = (0, 1) := by unfold getF; rw [if_neg (by omega), cut_one, e0]; rfl
    have r1 := rg_at hb hl (a + 1) (L - 1) (by omega) (by omega) e2 (by omega)
    have r2 := rg_at hb hl (a + 1 + (gam (L - 1)).length) Ds (by omega) (by omega) e3 (by omega)
    have k1 : gmF D (a + 1) 254 = (0, L - 1, ((a + 1 : Nat) : Int) + ((gam (L - 1)).length : Int)) := by
      unfold gmF
      rw [r1, if_neg (by simp only; omega)]
    have k3 : (((a + 1 : Nat) : Int) + ((gam (L - 1)).length : Int)).toNat = a + 1 + (gam (L - 1)).length := by omega
    have k2 : gmF D (a + 1 + (gam (L - 1)).length) 4096 = (0, Ds, ((a + 1 + (gam (L - 1)).length : Nat) : Int) + ((gam Ds).length : Int)) := by
      unfold gmF
      rw [r2, if_neg (by simp only; omega)]
    unfold nxF
    rw [g1, if_neg (by simp), if_neg (by simp), k1, if_neg (by simp)]
    simp only [k3, k2]
    simp only [Prod.mk.injEq, true_and, and_true]
    omega
/-- What is read as a token is its code. -/
theorem nx_is {D : List Int} (hb : Bytes D) (hl : D.length ≤ 65536) (a : Nat) (h : (nxF D a).1 = 0) (hw : ¬ Wr (nxF D a).2.1) :
    cut D a (tb (nxF D a).2.1).length = tb (nxF D a).2.1 ∧ (nxF D a).2.2 = (a : Int) + ((tb (nxF D a).2.1).length : Int) := by
  unfold nxF at h hw ⊢
  by_cases h1 : (getF D a 1).1 = 0
  · have k1 := getF_ok h1
    rw [if_neg (by simp [h1])] at h hw ⊢
    have hg1 : (getF D a 1).2 = gb D a := by rw [k1.2, cut_one]; simp [num]
    rw [hg1] at h hw ⊢
    by_cases h2 : gb D a = 0
    · rw [if_pos h2] at h hw ⊢
      have k2 := getF_ok h
      have hB := getF_bd D (a + 1) 8
      simp only at hw ⊢
      have hlow := low_num (cut_01 D (a + 1) 8)
      rw [cut_len, ← k2.2] at hlow
      obtain ⟨B, hBv⟩ : ∃ B, (getF D (a + 1) 8).2 = B := ⟨_, rfl⟩
      rw [hBv] at hlow hB ⊢
      have htb : tb (0, 0, B) = low B 9 := by unfold tb; simp
      have h9 : low B 9 = 0 :: low B 8 := by
        have : B / 256 % 2 = 0 := by omega
        simp [low, List.range_succ]
        omega
      rw [htb, low_len]
      refine ⟨?_, rfl⟩
      rw [h9, show (9 : Nat) = 1 + 8 from rfl, cut_app, cut_one, h2, ← hlow]
      rfl
    · rw [if_neg h2] at h hw ⊢
      have h2' : gb D a = 1 := by rcases gb_01 D a with g | g; exact absurd g h2; exact g
      by_cases h3 : (gmF D (a + 1) 254).1 = 0
      · rw [if_neg (by simp [h3])] at h hw ⊢
        simp only at h hw ⊢
        obtain ⟨m1, m2, m3, m4⟩ := gmF_ok hb hl h3
        obtain ⟨n1, n2, n3, n4⟩ := gmF_ok hb hl h
        obtain ⟨r1, r2, r3, r4⟩ := rg_is hb hl (a + 1) m1
        obtain ⟨s1, s2, s3, s4⟩ := rg_is hb hl _ n1
        have q1 : (gmF D (a + 1) 254).2.1 = (rgF D ((8 * D.length : Nat) : Int) ((a + 1 : Nat) : Int)).2.1 := rfl
        have q2 : (gmF D (a + 1) 254).2.2 = (rgF D ((8 * D.length : Nat) : Int) ((a + 1 : Nat) : Int)).2.2 := rfl
        obtain ⟨v, hv⟩ : ∃ v, (gmF D (a + 1) 254).2.1 = v := ⟨_, rfl⟩
        rw [← q1, hv] at r1 r2 r3 r4
        rw [← q2] at r4
        have q3 : (gmF D (a + 1) 254).2.2.toNat = a + 1 + (gam v).length := by rw [r4]; omega
        rw [q3] at s1 s2 s3 s4 h hw ⊢
        have q4 : (gmF D (a + 1 + (gam v).length) 4096).2.1 = (rgF D ((8 * D.length : Nat) : Int) ((a + 1 + (gam v).length : Nat) : Int)).2.1 := rfl
        have q5 : (gmF D (a + 1 + (gam v).length) 4096).2.2 = (rgF D ((8 * D.length : Nat) : Int) ((a + 1 + (gam v).length : Nat) : Int)).2.2 := rfl
        obtain ⟨d, hd⟩ : ∃ d, (gmF D (a + 1 + (gam v).length) 4096).2.1 = d := ⟨_, rfl⟩
        rw [← q4, hd] at s1 s2 s3 s4
        rw [← q5] at s4
        rw [hv, hd] at hw ⊢
        have htb : tb (v + 1, d, 0) = 1 :: (gam v ++ gam d) := by unfold tb; rw [if_neg (by simp only; omega)]; simp
        rw [htb, List.length_cons, List.length_append]
        refine ⟨?_, ?_⟩
        · rw [Nat.add_comm, cut_app, cut_one, cut_app, h2', r3, s3]
          rfl
        · rw [s4]
          omega
      · rw [if_pos h3] at h
        exact absurd h h3
  · rw [if_pos h1] at h
    exact absurd h h1

/-- Behind the last bit stands the end. -/
theorem end_at {D : List Int} {c : Nat} (h : WF D c) : endF D c := by
  have := h.len
  refine ⟨by omega, num_zero (fun x hx => ?_)⟩
  obtain ⟨j, hj, rfl⟩ := List.mem_map.1 hx
  exact h.past _ (by omega)
theorem not_end {D : List Int} {a : Nat} {t : Int × Int × Int} (hat : cut D a (tb t).length = tb t) (hend : a + (tb t).length ≤ 8 * D.length) : ¬ endF D a := by
  rintro ⟨h1, h2⟩
  by_cases h0 : t.1 = 0
  · have : (tb t).length = 9 := by unfold tb; rw [if_pos h0, low_len]
    omega
  · have hz := zero_num (cut_01 D a _) h2
    have htb : tb t = 1 :: (gam (t.1 - 1) ++ gam t.2.1) := by unfold tb; rw [if_neg h0]
    have hlen : 0 < (tb t).length := by rw [htb]; simp
    have e := of_cut hat 0 hlen
    rw [htb] at e
    have h5 := hz (gb D a) (List.mem_map.2 ⟨0, by simp; omega, rfl⟩)
    rw [Nat.add_zero, h5] at e
    simp at e
theorem de_at {D : List Int} (hb : Bytes D) (hl : D.length ≤ 65536) (l : List (Int × Int × Int)) (hok : OkTs l) (f a : Nat) (n : Int) (hck : ckL n l = 0) (hat : cut D a (tbs l).length = tbs l) (hwf : WF D (a + (tbs l).length)) (hf : l.length < f) : deF D f a n = (0, l) := by
  have hend : a + (tbs l).length ≤ 8 * D.length := by have := hwf.len; omega
  induction l generalizing f a n with
  | nil =>
    obtain ⟨f, rfl⟩ : ∃ g, f = g + 1 := ⟨f - 1, by simp at hf; omega⟩
    have hwf' : WF D a := by simpa [tbs] using hwf
    rw [deF, if_pos (end_at hwf')]
  | cons t l ih =>
    obtain ⟨f, rfl⟩ : ∃ g, f = g + 1 := ⟨f - 1, by simp at hf; omega⟩
    obtain ⟨k1, k2⟩ := ckL_cons hck
    obtain ⟨u1, u2, u3⟩ := ckT_ok k1
    have ho := hok t (by simp)
    rw [tbs_cons, List.length_append] at hat hwf hend
    rw [cut_app] at hat
    obtain ⟨e1, e2⟩ := List.append_inj hat (by rw [cut_len])
    have hn := nx_at hb hl a t u1 ho.2.2.1 ho.2.2.2 e1 (by omega)
    rw [deF, if_neg (not_end e1 (by omega)), hn]
    simp only
    rw [if_neg (by simp), if_neg (by simp [k1]), show ((a : Int) + ((tb t).length : Int)).toNat = a + (tb t).length by omega,
      ih (fun x hx => hok x (by simp [hx])) f (a + (tb t).length) (n + szT t) k2 e2 (by rw [Nat.add_assoc]; exact hwf) (by simp at hf; omega) (by omega)]
    simp
theorem tbs_many (l : List (Int × Int × Int)) (h : ∀ t ∈ l, ¬ Wr t) : 3 * l.length ≤ (tbs l).length := by
  induction l with
  | nil => simp
  | cons t l ih =>
    have := ih (fun x hx => h x (by simp [hx]))
    rw [tbs_cons, List.length_append, List.length_cons]
    have h3 : 3 ≤ (tb t).length := by
      unfold tb
      by_cases h0 : t.1 = 0
      · rw [if_pos h0, low_len]; omega
      · rw [if_neg h0]
        obtain ⟨a1, a2, a3, a4, a5⟩ := Wr_copy (h t (by simp)) h0
        have e1 := gam_gaB (t.1 - 1) (by omega) (by omega)
        have e2 := gam_gaB t.2.1 (by omega) (by omega)
        have e3 := gaB_bd (t.1 - 1) 8 (by omega) (by omega) (by decide)
        have e4 := gaB_bd t.2.1 13 (by omega) (by omega) (by decide)
        rw [List.length_cons, List.length_append]
        omega
    omega
theorem chkF_ck {l : List (Int × Int × Int)} (h : chkF l = 0) : ckL 0 l = 0 ∧ l.length ≤ 65536 := by
  unfold chkF at h
  split at h
  · cases h
  · exact ⟨h, by omega⟩
/-- Decoding reverses encoding. -/
theorem dec_enc (l : List (Int × Int × Int)) (hok : OkTs l) (h : chkF l = 0) (hs : sumP l ≤ 524288) : decF (pshs [] 0 (tbs l)) = (0, l) := by
  have hr := chkF_right h
  have hlen := tbs_len l hr
  have hm := tbs_many l hr
  have hwf := WF.pshs WF.nil (tbs_01 l)
  rw [Nat.zero_add] at hwf
  have hdl := hwf.len
  unfold decF
  refine de_at hwf.bytes (by omega) l hok _ 0 0 (chkF_ck h).1 ?_ (by rw [Nat.zero_add]; exact hwf) (by omega)
  refine cut_of (fun j hj => ?_)
  rw [gb_pshs WF.nil (tbs_01 l)]
  simp
/-- What is decoded is the encoding of the result. -/
theorem de_is {D : List Int} (hb : Bytes D) (hl : D.length ≤ 65536) (f a : Nat) (n : Int) (ha : a ≤ 8 * D.length) (l : List (Int × Int × Int)) (h : deF D f a n = (0, l)) :
    ckL n l = 0 ∧ cut D a (tbs l).length = tbs l ∧ a + (tbs l).length ≤ 8 * D.length ∧ endF D (a + (tbs l).length) ∧ OkTs l := by
  induction f generalizing a n l with
  | zero => simp [deF] at h
  | succ f ih =>
    rw [deF] at h
    split at h
    · next h1 =>
      simp only [Prod.mk.injEq, true_and] at h
      subst h
      exact ⟨rfl, rfl, ha, h1, fun x hx => by cases hx⟩
    · next h1 =>
      split at h
      · next h2 => simp only [Prod.mk.injEq] at h; exact absurd h.1 h2
      · next h2 =>
        split at h
        · next h3 => simp only [Prod.mk.injEq] at h; exact absurd h.1 h3
        · next h3 =>
          split at h
          · next h4 => simp only [Prod.mk.injEq] at h; exact absurd h.1 h4
          · next h4 =>
            simp only [Prod.mk.injEq, true_and] at h
            have h2' := Classical.not_not.1 h2
            have h3' := Classical.not_not.1 h3
            have h4' := Classical.not_not.1 h4
            have hw := (ckT_ok h3').1
            obtain ⟨p1, p2⟩ := nx_is hb hl a h2' hw
            have p3 := nxF_ok hb hl h2'
            have p4 := nxF_bd hb hl a
            obtain ⟨t, ht⟩ : ∃ t, (nxF D a).2.1 = t := ⟨_, rfl⟩
            rw [ht] at h p1 p2 h3' h4' hw p4
            rw [p2] at p3
            have e : (nxF D a).2.2.toNat = a + (tb t).length := by rw [p2]; omega
            rw [e] at h h4'
            obtain ⟨k1, k2, k3, k4, k5⟩ := ih (a + (tb t).length) (n + szT t) (by omega) (deF D f (a + (tb t).length) (n + szT t)).2 (by rw [← h4'])
            rw [← h]
            refine ⟨?_, ?_, ?_, ?_, ?_⟩
            · rw [ckL, if_neg (by simp [h3'])]; exact k1
            · rw [tbs_cons, List.length_append, cut_app, p1, k2]
            · rw [tbs_cons, List.length_append]; omega
            · rw [tbs_cons, List.length_append, ← Nat.add_assoc]; exact k4
            · intro x hx
              rcases List.mem_cons.1 hx with rfl | hx
              · exact ⟨⟨by omega, by omega⟩, ⟨by omega, by omega⟩, p4.2.2⟩
              · exact k5 x hx
theorem enc_dec {D : List Int} (hb : Bytes D) (hl : D.length ≤ 20000) (l : List (Int × Int × Int)) (h : decF D = (0, l)) : chkF l = 0 ∧ OkTs l ∧ 3 * l.length ≤ 8 * D.length ∧ sumP l ≤ 8 * D.length ∧ pshs [] 0 (tbs l) = D := by
  unfold decF at h
  obtain ⟨k1, k2, k3, k4, k5⟩ := de_is hb (by omega) _ 0 0 (by omega) l h
  rw [Nat.zero_add] at k3 k4
  have hr := ckL_right k1
  have hlen := tbs_len l hr
  have hm := tbs_many l hr
  have hwf := WF.pshs WF.nil (tbs_01 l)
  rw [Nat.zero_add] at hwf
  obtain ⟨q1, q2⟩ := k4
  have hz := zero_num (cut_01 D _ _) q2
  have hD : WF D (tbs l).length := by
    refine ⟨hb, by omega, fun i h1 h2 => ?_⟩
    exact hz _ (List.mem_map.2 ⟨i - (tbs l).length, by simp; omega, by congr 1; omega⟩)
  refine ⟨?_, k5, by omega, by omega, ?_⟩
  · unfold chkF
    rw [if_neg (by omega)]
    exact k1
  · refine WF.ext hwf hD (fun i hi => ?_)
    have := of_cut k2 i hi
    rw [Nat.zero_add] at this
    rw [this, gb_pshs WF.nil (tbs_01 l)]
    simp
end Go.Proofs.Ytjfdmhdmadnkoaa
