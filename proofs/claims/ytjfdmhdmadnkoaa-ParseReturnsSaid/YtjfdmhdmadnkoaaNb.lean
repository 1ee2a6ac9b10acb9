/- Layer 36: choices and potentials, plainly. -/
import Derived.Test.YtjfdmhdmadnkoaaLz
import Derived.Test.YtjfdmhdmadnkoaaLu
namespace Go.Proofs.Ytjfdmhdmadnkoaa
open Go.RowKit
set_option linter.unusedVariables false

/-- The copies of one distance more. -/
def chX (out : List (Int × Int × Int)) (d n : Nat) : List (Int × Int × Int) := out ++ (List.range (n - out.length)).map (fun j => (((out.length + 1 + j : Nat) : Int), (d : Int), 0))
/-- The tokens that can stand at a place, up to a distance. -/
def chA (b : List Int) (a : Nat) : Nat → List (Int × Int × Int)
  | 0 => [(0, 0, b.getD a 0)]
  | k + 1 => chX (chA b a k) (k + 1) (lnT b a (k + 1))
def chF (b : List Int) (a : Nat) : List (Int × Int × Int) := chA b a (min 4096 a)
theorem chX_len (out : List (Int × Int × Int)) (d n : Nat) : (chX out d n).length = max out.length n := by
  unfold chX
  rw [List.length_append, List.length_map, List.length_range]
  omega
theorem chA_pos (b : List Int) (a k : Nat) : 1 ≤ (chA b a k).length := by
  cases k with
  | zero => exact Nat.le_refl _
  | succ k => rw [chA, chX_len]; have := chA_pos b a k; omega
theorem chA_bd (b : List Int) (a k : Nat) : (chA b a k).length ≤ 255 := by
  induction k with
  | zero => simp [chA]
  | succ k ih =>
    have := lnT_le b a (k + 1)
    rw [chA, chX_len]
    omega
/-- One copy more. -/
theorem chX_step (out : List (Int × Int × Int)) (d n i : Nat) (h : i < n - out.length) :
    out ++ (List.range (i + 1)).map (fun j => (((out.length + 1 + j : Nat) : Int), (d : Int), (0 : Int))) = (out ++ (List.range i).map (fun j => (((out.length + 1 + j : Nat) : Int), (d : Int), (0 : Int)))) ++ [(((out.length + 1 + i : Nat) : Int), (d : Int), 0)] := by
  rw [List.range_succ, List.map_append, List.append_assoc]
  rfl
/-- The members of the choices. -/
def Chc (b : List Int) (a k : Nat) (t : Int × Int × Int) : Prop :=
  t = (0, 0, b.getD a 0) ∨ ∃ n d : Nat, t = ((n : Int), (d : Int), 0) ∧ 2 ≤ n ∧ 1 ≤ d ∧ d ≤ k ∧ n ≤ lnT b a d
theorem chA_mem (b : List Int) (a k : Nat) : ∀ t ∈ chA b a k, Chc b a k t := by
  induction k with
  | zero => intro t ht; simp [chA] at ht; exact Or.inl ht
  | succ k ih =>
    intro t ht
    rw [chA, chX] at ht
    rcases List.mem_append.1 ht with ht | ht
    · rcases ih t ht with h | ⟨n, d, h1, h2, h3, h4, h5⟩
      · exact Or.inl h
      · exact Or.inr ⟨n, d, h1, h2, h3, by omega, h5⟩
    · obtain ⟨j, hj, rfl⟩ := List.mem_map.1 ht
      have hj' := List.mem_range.1 hj
      have := chA_pos b a k
      exact Or.inr ⟨(chA b a k).length + 1 + j, k + 1, rfl, by omega, by omega, by omega, by omega⟩
/-- Whatever copy there is, the choices have one of its length from no greater distance. -/
theorem chA_has (b : List Int) (a k : Nat) (n d : Nat) (h1 : 2 ≤ n) (h2 : 1 ≤ d) (h3 : d ≤ k) (h4 : n ≤ lnT b a d) : ∃ e : Nat, ((n : Int), (e : Int), (0 : Int)) ∈ chA b a k ∧ 1 ≤ e ∧ e ≤ d := by
  induction k with
  | zero => omega
  | succ k ih =>
    rw [chA, chX]
    rcases Nat.lt_or_ge k d with g | g
    · obtain rfl : d = k + 1 := by omega
      rcases Nat.lt_or_ge (chA b a k).length n with g2 | g2
      · refine ⟨k + 1, List.mem_append_right _ (List.mem_map.2 ⟨n - (chA b a k).length - 1, List.mem_range.2 (by omega), ?_⟩), by omega, by omega⟩
        simp only [Prod.mk.injEq, and_true]
        omega
      · -- the length is there already
        have key : ∀ k, n ≤ (chA b a k).length → ∃ e : Nat, ((n : Int), (e : Int), (0 : Int)) ∈ chA b a k ∧ 1 ≤ e ∧ e ≤ k := by
          intro k
          induction k with
          | zero => intro h; simp [chA] at h; omega
          | succ k ih2 =>
            intro h
            rw [chA, chX]
            rcases Nat.lt_or_ge (chA b a k).length n with g3 | g3
            · rw [chA, chX_len] at h
              refine ⟨k + 1, List.mem_append_right _ (List.mem_map.2 ⟨n - (chA b a k).length - 1, List.mem_range.2 (by omega), ?_⟩), by omega, by omega⟩
              simp only [Prod.mk.injEq, and_true]
              omega
            · obtain ⟨e, he1, he2, he3⟩ := ih2 g3
              exact ⟨e, List.mem_append_left _ he1, he2, by omega⟩
        obtain ⟨e, he1, he2, he3⟩ := key k g2
        exact ⟨e, List.mem_append_left _ he1, he2, by omega⟩
    · obtain ⟨e, he1, he2, he3⟩ := ih g
      exact ⟨e, List.mem_append_left _ he1, he2, he3⟩
/-- Choices: error, tokens. -/
def chE (b : List Int) (a : Int) : Int × List (Int × Int × Int) := if 65536 < b.length then (5, []) else if a < 0 ∨ (b.length : Int) ≤ a then (2, []) else (0, chF b a.toNat)
theorem chc_ok {b : List Int} (hb : Bytes b) {a k : Nat} (ha : a < b.length) (hk : k ≤ 4096) (hka : k ≤ a) {t : Int × Int × Int} (h : Chc b a k t) :
    ¬ Wr t ∧ t.2.1 ≤ (a : Int) ∧ (a : Int) + szT t ≤ b.length ∧ OkT t ∧ 1 ≤ szT t ∧ szT t ≤ 255 := by
  rcases h with rfl | ⟨n, d, rfl, h1, h2, h3, h4⟩
  · have := hb.get a ha
    refine ⟨by simp [Wr], by simp, by simp [szT]; omega, ⟨by simp, by simp, this.1, this.2⟩, by simp [szT], by simp [szT]⟩
  · have := lnT_le b a d
    have hs : szT ((n : Int), (d : Int), 0) = (n : Int) := by unfold szT; exact if_neg (by simp only; omega)
    refine ⟨?_, by simp only; omega, by rw [hs]; omega, ⟨⟨by simp only; omega, by simp only; omega⟩, ⟨by simp only; omega, by simp only; omega⟩, by simp, by simp⟩, by rw [hs]; omega, by rw [hs]; omega⟩
    unfold Wr
    simp only
    rw [if_neg (by omega)]
    omega

/-- The cost of a token at a place, with the potential behind it. -/
def ctP (P : List Int) (a : Nat) (t : Int × Int × Int) : Int := prc t + P.getD (a + (szT t).toNat) 0
def bsP (P : List Int) (a : Nat) (r : Int × (Int × Int × Int)) (t : Int × Int × Int) : Int × (Int × Int × Int) := if r.1 < 0 ∨ ctP P a t ≤ r.1 then (ctP P a t, t) else r
def beL (P : List Int) (a : Nat) (l : List (Int × Int × Int)) : Int × (Int × Int × Int) := l.foldl (bsP P a) (-1, (0, 0, 0))
theorem beL_snoc (P : List Int) (a : Nat) (l : List (Int × Int × Int)) (t : Int × Int × Int) : beL P a (l ++ [t]) = bsP P a (beL P a l) t := by simp [beL]
/-- The cheapest choice at a place. -/
def beF (b P : List Int) (a : Nat) : Int × (Int × Int × Int) := beL P a (chF b a)
/-- The potentials behind so many steps. -/
def poW (b : List Int) : Nat → List Int
  | 0 => List.replicate (b.length + 1) 0
  | j + 1 => (poW b j).set (b.length - 1 - j) (beF b (poW b j) (b.length - 1 - j)).1
def poF (b : List Int) : List Int := poW b b.length
theorem poW_len (b : List Int) (j : Nat) : (poW b j).length = b.length + 1 := by
  induction j with
  | zero => simp [poW]
  | succ j ih => rw [poW, List.length_set, ih]
def NN (P : List Int) : Prop := ∀ x ∈ P, 0 ≤ x
theorem NN.get {P : List Int} (h : NN P) (i : Nat) : 0 ≤ P.getD i 0 := by
  by_cases hi : i < P.length
  · simp [List.getD, hi]; exact h _ (List.getElem_mem hi)
  · simp [List.getD, List.getElem?_eq_none (Nat.le_of_not_lt hi)]
theorem beL_spec {P : List Int} (hP : NN P) (a : Nat) (l : List (Int × Int × Int)) (hl : l ≠ []) :
    (beL P a l).2 ∈ l ∧ (beL P a l).1 = ctP P a (beL P a l).2 ∧ 0 ≤ (beL P a l).1 ∧ ∀ t ∈ l, (beL P a l).1 ≤ ctP P a t := by
  have hc : ∀ t, 0 ≤ ctP P a t := fun t => by
    have h1 := hP.get (a + (szT t).toNat)
    have h2 := prc_bd t
    unfold ctP
    omega
  have gen : ∀ (l : List (Int × Int × Int)) (r : Int × (Int × Int × Int)), 0 ≤ r.1 → r.1 = ctP P a r.2 →
      let s := l.foldl (bsP P a) r
      (s.2 = r.2 ∨ s.2 ∈ l) ∧ s.1 = ctP P a s.2 ∧ 0 ≤ s.1 ∧ s.1 ≤ r.1 ∧ ∀ t ∈ l, s.1 ≤ ctP P a t := by
    intro l
    induction l with
    | nil => intro r h0 h1; exact ⟨Or.inl rfl, h1, h0, Int.le_refl _, fun t ht => by cases ht⟩
    | cons t l ih =>
      intro r h0 h1
      simp only [List.foldl_cons]
      have hb : bsP P a r t = (if ctP P a t ≤ r.1 then (ctP P a t, t) else r) := by
        unfold bsP
        by_cases h : ctP P a t ≤ r.1
        · rw [if_pos (Or.inr h), if_pos h]
        · rw [if_neg (by omega), if_neg h]
      rw [hb]
      split
      · next h =>
        obtain ⟨i1, i2, i3, i4, i5⟩ := ih (ctP P a t, t) (hc t) rfl
        simp only at i1 i4
        refine ⟨?_, i2, i3, by omega, ?_⟩
        · rcases i1 with i1 | i1
          · exact Or.inr (by rw [i1]; simp)
          · exact Or.inr (List.mem_cons_of_mem _ i1)
        · intro u hu
          rcases List.mem_cons.1 hu with rfl | hu
          · exact i4
          · exact i5 u hu
      · next h =>
        obtain ⟨i1, i2, i3, i4, i5⟩ := ih r h0 h1
        refine ⟨?_, i2, i3, i4, ?_⟩
        · rcases i1 with i1 | i1
          · exact Or.inl i1
          · exact Or.inr (List.mem_cons_of_mem _ i1)
        · intro u hu
          rcases List.mem_cons.1 hu with rfl | hu
          · omega
          · exact i5 u hu
  match l, hl with
  | t :: l, _ =>
    have h0 : beL P a (t :: l) = l.foldl (bsP P a) (ctP P a t, t) := by
      unfold beL
      rw [List.foldl_cons]
      congr 1
    obtain ⟨i1, i2, i3, i4, i5⟩ := gen l (ctP P a t, t) (hc t) rfl
    rw [← h0] at i1 i2 i3 i4 i5
    simp only at i1 i4
    refine ⟨?_, i2, i3, ?_⟩
    · rcases i1 with i1 | i1
      · rw [i1]; simp
      · exact List.mem_cons_of_mem _ i1
    · intro u hu
      rcases List.mem_cons.1 hu with rfl | hu
      · exact i4
      · exact i5 u hu
theorem chF_ne (b : List Int) (a : Nat) : chF b a ≠ [] := fun e => by
  have := chA_pos b a (min 4096 a)
  unfold chF at e
  rw [e] at this
  simp at this
theorem poW_nn (b : List Int) (j : Nat) : NN (poW b j) := by
  induction j with
  | zero => intro x hx; simp [poW] at hx; omega
  | succ j ih =>
    intro x hx
    rw [poW] at hx
    rcases List.mem_or_eq_of_mem_set hx with h | rfl
    · exact ih x h
    · exact (beL_spec ih _ _ (chF_ne b _)).2.2.1
theorem ctP_congr {P Q : List Int} {a : Nat} (h : ∀ i, a < i → P.getD i 0 = Q.getD i 0) (t : Int × Int × Int) : ctP P a t = ctP Q a t := by
  unfold ctP
  have := szT_pos t
  rw [h _ (by omega)]
theorem beF_congr {b P Q : List Int} {a : Nat} (h : ∀ i, a < i → P.getD i 0 = Q.getD i 0) : beF b P a = beF b Q a := by
  unfold beF beL
  congr 1
  funext r t
  unfold bsP
  rw [ctP_congr h t]
theorem getD_set_ne {P : List Int} {i j : Nat} (x : Int) (h : i ≠ j) : (P.set i x).getD j 0 = P.getD j 0 := by simp [List.getD, List.getElem?_set_ne h]
theorem getD_set_eq {P : List Int} {i : Nat} (x : Int) (h : i < P.length) : (P.set i x).getD i 0 = x := by simp [List.getD, h]
/-- Later steps leave the potentials behind as they are. -/
theorem poW_stay (b : List Int) (j k i : Nat) (hjk : j ≤ k) (hk : k ≤ b.length) (hi : b.length - j ≤ i) : (poW b k).getD i 0 = (poW b j).getD i 0 := by
  induction k with
  | zero => rw [show j = 0 by omega]
  | succ k ih =>
    rcases Nat.lt_or_ge k j with g | g
    · rw [show j = k + 1 by omega]
    · rw [poW, getD_set_ne _ (by omega)]
      exact ih g (by omega)
theorem poF_at (b : List Int) (a : Nat) (ha : a < b.length) : (poF b).getD a 0 = (beF b (poF b) a).1 := by
  unfold poF
  have h1 := poW_stay b (b.length - 1 - a + 1) b.length a (by omega) (Nat.le_refl _) (by omega)
  rw [h1, poW, show b.length - 1 - (b.length - 1 - a) = a by omega, getD_set_eq _ (by rw [poW_len]; omega)]
  rw [beF_congr (P := poW b (b.length - 1 - a)) (Q := poW b b.length) (fun i hi => (poW_stay b (b.length - 1 - a) b.length i (by omega) (Nat.le_refl _) (by omega)).symm)]
theorem poF_end (b : List Int) : (poF b).getD b.length 0 = 0 := by
  unfold poF
  rw [poW_stay b 0 b.length b.length (by omega) (Nat.le_refl _) (by omega), poW]
  simp [List.getD]
theorem poF_len (b : List Int) : (poF b).length = b.length + 1 := poW_len b _
theorem poF_nn (b : List Int) : NN (poF b) := poW_nn b _
/-- The steps. -/
def stW (b : List Int) : Nat → List (Int × Int × Int)
  | 0 => List.replicate b.length (0, 0, 0)
  | j + 1 => (stW b j).set (b.length - 1 - j) (beF b (poW b j) (b.length - 1 - j)).2
theorem stW_len (b : List Int) (j : Nat) : (stW b j).length = b.length := by
  induction j with
  | zero => simp [stW]
  | succ j ih => rw [stW, List.length_set, ih]
theorem stW_stay (b : List Int) (j k i : Nat) (hjk : j ≤ k) (hk : k ≤ b.length) (hi : b.length - j ≤ i) : (stW b k).getD i (0, 0, 0) = (stW b j).getD i (0, 0, 0) := by
  induction k with
  | zero => rw [show j = 0 by omega]
  | succ k ih =>
    rcases Nat.lt_or_ge k j with g | g
    · rw [show j = k + 1 by omega]
    · rw [stW]
      have := ih g (by omega)
      rw [← this]
      simp [List.getD, List.getElem?_set_ne (show b.length - 1 - k ≠ i by omega)]
theorem stW_at (b : List Int) (a : Nat) (ha : a < b.length) : (stW b b.length).getD a (0, 0, 0) = (beF b (poF b) a).2 := by
  have h1 := stW_stay b (b.length - 1 - a + 1) b.length a (by omega) (Nat.le_refl _) (by omega)
  rw [h1, stW, show b.length - 1 - (b.length - 1 - a) = a by omega]
  have h2 : ((stW b (b.length - 1 - a)).set a (beF b (poW b (b.length - 1 - a)) a).2).getD a (0, 0, 0) = (beF b (poW b (b.length - 1 - a)) a).2 := by simp [List.getD, stW_len, ha]
  rw [h2]
  unfold poF
  rw [beF_congr (P := poW b (b.length - 1 - a)) (Q := poW b b.length) (fun i hi => (poW_stay b (b.length - 1 - a) b.length i (by omega) (Nat.le_refl _) (by omega)).symm)]
/-- The optimal factorization from a place on. -/
def opt (b : List Int) : Nat → Nat → List (Int × Int × Int)
  | 0, _ => []
  | f + 1, a => if a < b.length then (beF b (poF b) a).2 :: opt b f (a + (szT (beF b (poF b) a).2).toNat) else []
def opF (b : List Int) : List (Int × Int × Int) := opt b b.length 0
theorem opt_end {b : List Int} {f a : Nat} (h : b.length ≤ a) : opt b f a = [] := by
  cases f with
  | zero => rfl
  | succ f => rw [opt, if_neg (by omega)]
theorem opt_step {b : List Int} {f a : Nat} (h : a < b.length) : opt b (f + 1) a = (beF b (poF b) a).2 :: opt b f (a + (szT (beF b (poF b) a).2).toNat) := by rw [opt, if_pos h]
theorem beF_chc (b : List Int) (P : List Int) (hP : NN P) (a : Nat) : Chc b a (min 4096 a) (beF b P a).2 := chA_mem b a _ _ (beL_spec hP a _ (chF_ne b a)).1

/-! Factorizations of a byte string. -/
/-- A token that may stand at a place: a literal, or a copy of the bytes that follow. -/
def Fit (b : List Int) (a : Nat) (t : Int × Int × Int) : Prop := a < b.length ∧ Chc b a (min 4096 a) t
/-- The tokens stand for the bytes from a place on. -/
def Fac (b : List Int) : Nat → List (Int × Int × Int) → Prop
  | a, [] => a = b.length
  | a, t :: r => Fit b a t ∧ Fac b (a + (szT t).toNat) r
theorem opt_fac {b : List Int} (hb : Bytes b) (f a : Nat) (ha : a ≤ b.length) (hf : b.length ≤ a + f) : Fac b a (opt b f a) := by
  induction f generalizing a with
  | zero => rw [opt, Fac]; omega
  | succ f ih =>
    rcases Nat.lt_or_ge a b.length with h | h
    · rw [opt_step h, Fac]
      have hc := beF_chc b (poF b) (poF_nn b) a
      obtain ⟨h1, h2, h3, h4, h5, h6⟩ := chc_ok hb h (by omega) (by omega) hc
      exact ⟨⟨h, hc⟩, ih _ (by omega) (by omega)⟩
    · rw [opt_end h, Fac]; omega
theorem opt_sum {b : List Int} (hb : Bytes b) (f a : Nat) (ha : a ≤ b.length) (hf : b.length ≤ a + f) : sumP (opt b f a) = (poF b).getD a 0 := by
  induction f generalizing a with
  | zero => rw [opt, show a = b.length by omega, poF_end]; rfl
  | succ f ih =>
    rcases Nat.lt_or_ge a b.length with h | h
    · rw [opt_step h, sumP_cons, poF_at b a h]
      have hc := beF_chc b (poF b) (poF_nn b) a
      obtain ⟨h1, h2, h3, h4, h5, h6⟩ := chc_ok hb h (by omega) (by omega) hc
      rw [ih _ (by omega) (by omega)]
      exact (beL_spec (poF_nn b) a _ (chF_ne b a)).2.1.symm
    · rw [opt_end h, show a = b.length by omega, poF_end]; rfl
/-- No token that fits costs less than the choices say. -/
theorem fit_cost {b Q : List Int} {a : Nat} {t : Int × Int × Int} (h : Fit b a t) (hQ : ∀ u ∈ chF b a, Q.getD a 0 ≤ ctP Q a u) : Q.getD a 0 ≤ ctP Q a t := by
  rcases h.2 with rfl | ⟨n, d, rfl, h1, h2, h3, h4⟩
  · refine hQ _ ?_
    have : ∀ k, (0, 0, b.getD a 0) ∈ chA b a k := fun k => by
      induction k with
      | zero => simp [chA]
      | succ k ih => rw [chA, chX]; exact List.mem_append_left _ ih
    exact this _
  · obtain ⟨e, he1, he2, he3⟩ := chA_has b a (min 4096 a) n d h1 h2 h3 h4
    have hh := hQ _ he1
    have hl := lnT_le b a d
    have hm := prc_mono (n : Int) (d : Int) (n : Int) (e : Int) (by omega) (by omega) (by omega) (by omega) (by omega) (by omega)
    unfold ctP at hh ⊢
    have hs : szT ((n : Int), (e : Int), 0) = szT ((n : Int), (d : Int), 0) := rfl
    rw [hs] at hh
    omega
/-- Feasible numbers bound every factorization from below. -/
theorem fac_cost {b Q : List Int} (hQ : ∀ a, a < b.length → ∀ u ∈ chF b a, Q.getD a 0 ≤ ctP Q a u) (hE : Q.getD b.length 0 = 0) (l : List (Int × Int × Int)) (a : Nat) (h : Fac b a l) : Q.getD a 0 ≤ sumP l := by
  induction l generalizing a with
  | nil => rw [Fac] at h; rw [h, hE]; exact Int.le_refl _
  | cons t l ih =>
    rw [Fac] at h
    have h1 := fit_cost h.1 (hQ a h.1.1)
    have h2 := ih _ h.2
    rw [sumP_cons]
    unfold ctP at h1
    omega
theorem poF_feas (b : List Int) (a : Nat) (ha : a < b.length) : ∀ u ∈ chF b a, (poF b).getD a 0 ≤ ctP (poF b) a u := fun u hu => by
  rw [poF_at b a ha]
  exact (beL_spec (poF_nn b) a _ (chF_ne b a)).2.2.2 u hu
theorem fac_ck {b : List Int} (hb : Bytes b) (hl : b.length ≤ 65536) (l : List (Int × Int × Int)) (a : Nat) (h : Fac b a l) : ckL (a : Int) l = 0 ∧ OkTs l ∧ l.length ≤ b.length - a ∧ exF (b.take a) l = b := by
  induction l generalizing a with
  | nil =>
    rw [Fac] at h
    exact ⟨rfl, fun x hx => (by cases hx), by simp, by rw [exF, List.take_of_length_le (by omega)]⟩
  | cons t l ih =>
    rw [Fac] at h
    obtain ⟨⟨h0, hc⟩, hr⟩ := h
    obtain ⟨h1, h2, h3, h4, h5, h6⟩ := chc_ok hb h0 (by omega) (by omega) hc
    obtain ⟨i1, i2, i3, i4⟩ := ih _ hr
    refine ⟨?_, ?_, ?_, ?_⟩
    · rw [ckL, if_neg (by rw [ok_ckT h1 h2 (by omega)]; simp)]
      rw [Int.natCast_add, Int.toNat_of_nonneg (by omega)] at i1
      exact i1
    · intro x hx
      rcases List.mem_cons.1 hx with rfl | hx
      · exact h4
      · exact i2 x hx
    · rw [List.length_cons]; omega
    · rw [exF]
      have e : ex1 (b.take a) t = b.take (a + (szT t).toNat) := by
        rcases hc with rfl | ⟨n, d, rfl, g1, g2, g3, g4⟩
        · unfold ex1 szT
          simp only [if_true]
          rw [take_snoc h0]
          rfl
        · have := lnT_le b a d
          have hs : szT ((n : Int), (d : Int), 0) = (n : Int) := by unfold szT; exact if_neg (by simp only; omega)
          rw [hs]
          unfold ex1
          simp only
          rw [if_neg (by omega)]
          exact cpy_take b d n a g2 (by omega) (by omega) (fun j hj => cmn_eq b d a (mst b a) j (by unfold lnT at g4; omega))
      rw [e, i4]
end Go.Proofs.Ytjfdmhdmadnkoaa

/- Layer 36: choices, an iterator over tokens. -/
namespace Go.Proofs.Ytjfdmhdmadnkoaa
open Go.RowKit Go.Shelf
set_option linter.unusedVariables false
attribute [local go_sem] Oper.semAt_some

theorem choices_in (ad : Option Addr) (m c : Nat) (x : Int) (w : World) :
    Calls Try.prog 30 #[.slice ad m c, .int .i64 x] w fun e w' =>
      e = .returned (.func (.func 49) #[] #[.pointer (some ⟨w.heap.size, 0, none⟩), .pointer (some ⟨w.heap.size + 1, 0, none⟩)]) ∧
      w' = (w.alloc (.cells #[.slice ad m c] 22)).alloc (.cells #[.int .i64 x] 3) := by
  go_enter Try.func30, Try.ntmps30
  go_wp2_with fail
  go_ret
  exact ⟨rfl, rfl⟩

set_option maxRecDepth 100000 in
set_option maxHeartbeats 2000000 in
theorem pcommon_any (v : Value) (D : List Int) (a d : Nat) (hb : Bytes D) (h1 : 1 ≤ d) (hd : d ≤ a) (ha : a < D.length) (hl : D.length ≤ 65536) (w : World) (h : Rd8 w v D) :
    Calls Try.prog 50 #[v, .int .i64 (a : Int), .int .i64 (d : Int)] w fun x w' => x = .returned (.int .i64 (lnT D a d : Int)) ∧ Ext w w' := by
  obtain ⟨ad, cap, rfl, q1, q2, q3⟩ := Rd.shape h
  obtain ⟨bb, off, hab, -, -⟩ := Rd.cells h (by omega)
  subst hab
  obtain ⟨m, hm⟩ : ∃ m, D.length = m := ⟨_, rfl⟩
  obtain ⟨M, hM⟩ : ∃ M, min 255 (m - a) = M := ⟨_, rfl⟩
  have hM1 : M ≤ 255 ∧ a + M ≤ m ∧ (M = 255 ∨ a + M = m) := by omega
  have hln : lnT D a d = cmn D d a M := by unfold lnT mst; rw [hm, hM]
  obtain ⟨L, hL⟩ : ∃ L, lnT D a d = L := ⟨_, rfl⟩
  have hLc : Hid (cmn D d a M = L) := hidden (by rw [← hln, hL])
  rw [hL]
  have hR : Hid (Rd8 w (.slice (some ⟨bb, off, none⟩) m cap) D) := hidden (by rw [← hm]; exact h)
  rw [hm] at q1 ha hl ⊢
  replace hm := hidden hm
  replace hb := hidden hb
  obtain ⟨hM2, hM3, hM4⟩ := hM1
  replace hM4 := hidden hM4
  clear h hM hln hL
  go_enter Try.func50, Try.ntmps50
  go_wp2_with fail
  go_loopw [7] (fun s6 wx => ∃ j : Nat, s6 = .int .i64 (j : Int) ∧ j ≤ M ∧ Hid (j + cmn D d (a + j) (M - j) = L) ∧ Ext w wx) (fun s6 _ => M - (intOf s6).toNat)
  case atStart => exact ⟨0, rfl, Nat.zero_le _, by show _ = _; rw [Nat.zero_add, Nat.add_zero, Nat.sub_zero]; exact hLc.out, Ext.refl _⟩
  case round =>
    obtain ⟨j, rfl, hjM, hLj, hX⟩ := hrel
    obtain ⟨wj, hwj⟩ : ∃ x, x = wr := ⟨_, rfl⟩
    subst hwj
    by_cases hj : j < M
    · have dR2 := Rd.ext hR.out hX
      have cA := Rd8.at dR2 (a + j) (by rw [hm.out]; omega)
      have cB := Rd8.at dR2 (a + j - d) (by rw [hm.out]; omega)
      have i1 : (0 : Int) ≤ (a : Int) + (j : Int) := by omega
      have i2 : (a : Int) + (j : Int) < (m : Int) := by omega
      have i3 : ((a : Int) + (j : Int)).toNat = a + j := by omega
      have i4 : (0 : Int) ≤ (a : Int) + (j : Int) - (d : Int) := by omega
      have i5 : (a : Int) + (j : Int) - (d : Int) < (m : Int) := by omega
      have i6 : ((a : Int) + (j : Int) - (d : Int)).toNat = a + j - d := by omega
      have i7 : (j : Int) < 255 := by omega
      have w1 : IntKind.i64.wrap ((a : Int) + (j : Int)) = (a : Int) + (j : Int) := IntWalk.i64_in _ (by omega)
      have w2 : IntKind.i64.wrap ((a : Int) + (j : Int) - (d : Int)) = (a : Int) + (j : Int) - (d : Int) := IntWalk.i64_in _ (by omega)
      have b1 : decide ((j : Int) < 255) = true := by simp; omega
      have b2 : decide ((a : Int) + (j : Int) < (m : Int)) = true := by simp; omega
      by_cases hq : D.getD (a + j) 0 = D.getD (a + j - d) 0
      · have hst := hidden (cmn_step (D := D) (d := d) (a := a) hj hq)
        rw [← hq] at cB
        obtain ⟨y, hy⟩ : ∃ y, D.getD (a + j) 0 = y := ⟨_, rfl⟩
        rw [hy] at cA cB
        replace dR2 := hidden dR2
        clear hq hy
        go_wp2_with fail
        go_quiet (fail)
        go_wp2_with fail
        go_round
        case rel => exact ⟨j + 1, by go_num, by omega, by show _ = _; rw [← hst.out]; exact hLj.out, hX.drewN _⟩
        case measure => simp [intOf]; omega
      · have hst := cmn_stop (D := D) (d := d) (a := a) hj hq
        obtain ⟨y, hy⟩ : ∃ y, D.getD (a + j) 0 = y := ⟨_, rfl⟩
        obtain ⟨z, hz⟩ : ∃ z, D.getD (a + j - d) 0 = z := ⟨_, rfl⟩
        rw [hy] at cA hq
        rw [hz] at cB hq
        have hyz : (y == z) = false := by simp [hq]
        have hfin : Hid (L = j) := by show _ = _; rw [← hLj.out, hst]
        replace dR2 := hidden dR2
        clear hq hy hz hst
        go_wp2_with fail
        go_quiet (fail)
        go_wp2_with fail
        go_ret
        exact ⟨ret_int (by rw [hfin.out]), hX.drewN _⟩
    · have hfin : Hid (L = j) := by show _ = _; rw [← hLj.out, show M - j = 0 by omega]; rfl
      by_cases hj2 : j < 255
      · have b1 : decide ((j : Int) < 255) = true := by simp; omega
        have b2 : decide ((a : Int) + (j : Int) < (m : Int)) = false := by have := hM4.out; simp; omega
        have w1 : IntKind.i64.wrap ((a : Int) + (j : Int)) = (a : Int) + (j : Int) := IntWalk.i64_in _ (by omega)
        go_wp2_with fail
        go_quiet (fail)
        go_wp2_with fail
        go_ret
        exact ⟨ret_int (by rw [hfin.out]), hX.drewN _⟩
      · have b1 : decide ((j : Int) < 255) = false := by simp; omega
        go_wp2_with fail
        go_quiet (fail)
        go_wp2_with fail
        go_ret
        exact ⟨ret_int (by rw [hfin.out]), hX.drewN _⟩

/-- The copies of a distance, so far. -/
def chP (out : List (Int × Int × Int)) (d i : Nat) : List (Int × Int × Int) := out ++ (List.range i).map (fun j => (((out.length + 1 + j : Nat) : Int), (d : Int), 0))
theorem chP_succ (out : List (Int × Int × Int)) (d i : Nat) : chP out d (i + 1) = chP out d i ++ [(((out.length + 1 + i : Nat) : Int), (d : Int), 0)] := by
  unfold chP
  rw [List.range_succ, List.map_append, List.append_assoc]
  rfl
theorem chP_len (out : List (Int × Int × Int)) (d i : Nat) : (chP out d i).length = out.length + i := by simp [chP]
theorem chP_full (b : List Int) (a k : Nat) : chA b a (k + 1) = chP (chA b a k) (k + 1) (lnT b a (k + 1) - (chA b a k).length) := rfl
set_option maxRecDepth 100000 in
set_option maxHeartbeats 4000000 in
theorem choices1_in (n : Nat) (hn : 2 ≤ n) (l B1 B2 a : Nat) (v : Value) (D : List Int) (hb : Bytes D) (ha : a < D.length) (hl : D.length ≤ 65536) (S : List Nat) (hS1 : B1 ∈ S) (hS2 : B2 ∈ S) (hSv : 0 < D.length → ∀ g, v.ownBlock = some g → g ∈ S)
    (J Jx : List (Int × Int × Int) → World → Prop) (W : World) (hJ : AbidesFrom W.heap.size J) (hlt : ∀ z ∈ S, z < W.heap.size)
    (hY : ∀ pre z W1, J pre W1 → pre.length < 256 → Chc D a (min 4096 a) z → YieldAt Fence.wide (n - 1) Try.prog l #[tkv z] W1 fun e W' =>
      (e = .returned (.bool true) ∧ J (pre ++ [z]) W' ∧ (KeepS S W1 W' ∧ W1.heap.size ≤ W'.heap.size)) ∨ (e = .returned (.bool false) ∧ Jx (pre ++ [z]) W'))
    (b1 : Blk W B1 22 [v]) (b2 : Blk W B2 3 [.int .i64 (a : Int)]) (hR : Rd8 W v D) (h0 : J [] W) :
    CallsIn Fence.wide n Try.prog 49 #[.func (.yield l) #[] #[], .pointer (some ⟨B1, 0, none⟩), .pointer (some ⟨B2, 0, none⟩)] W fun e W' => (∃ v, e = .returned v) ∧
      ((∃ ys, ys = chF D a ∧ J ys W') ∨ (∃ pre, True ∧ Jx pre W')) := by
  refine callsIn_of_wp Try.func49 rfl trivial ?_ rfl
  simp only [Try.ntmps49, List.size_toArray, List.length_cons, List.length_nil, Nat.reduceAdd, Nat.reduceSub, Array.replicate_succ, Array.replicate_zero, List.push_toArray, List.append_toArray, List.nil_append, List.cons_append]
  obtain ⟨ad, cap, rfl, q1, q2, q3⟩ := Rd.shape hR
  obtain ⟨bb, off, hab, -, -⟩ := Rd.cells hR (by omega)
  subst hab
  have hC := fun (d : Nat) (h1 : 1 ≤ d) (hd : d ≤ a) W' (hW : Rd8 W' _ D) => pcommon_any (.slice (some ⟨bb, off, none⟩) D.length cap) D a d hb h1 hd ha hl W' hW
  have cA := Rd8.at hR a ha
  have c1 := b1.cell 0 _ rfl
  have c2 := b2.cell 0 _ rfl
  have hn1 : 1 ≤ n := by omega
  have hn2 : 1 ≤ n - 1 := by omega
  have hcf : chF D a = chA D a (min 4096 a) := rfl
  have hc0 : [] ++ [((0 : Int), (0 : Int), D.getD a 0)] = chA D a 0 := rfl
  obtain ⟨y, hy⟩ : ∃ y, D.getD a 0 = y := ⟨_, rfl⟩
  rw [hy] at cA hc0
  obtain ⟨m, hm⟩ : ∃ m, D.length = m := ⟨_, rfl⟩
  rw [hm] at q1 c1 ha hl b1 hR hSv hC
  obtain ⟨K, hK0⟩ : ∃ K, min 4096 a = K := ⟨_, rfl⟩
  have hKi : min (a : Int) (4096 : Int) = (K : Int) := by omega
  have hK1 : K ≤ 4096 ∧ K ≤ a := by omega
  rw [hK0] at hcf
  rw [hcf]
  obtain ⟨hK2, hK3⟩ := hK1
  have haI0 : (0 : Int) ≤ (a : Int) := by omega
  have haI : (a : Int) < (m : Int) := by omega
  replace hm := hidden hm
  replace hb := hidden hb
  replace hc0 := hidden hc0
  replace hC := hidden hC
  have hR' : Hid (Rd8 W (.slice (some ⟨bb, off, none⟩) m cap) D) := hidden hR
  have hyy := hidden hy
  have hKK := hidden hK0
  clear hcf hK0 hy hR
  have hY1 := hY [] (0, 0, y) W h0 (by simp) (Or.inl (by rw [← hyy.out]))
  change YieldAt Fence.wide (n - 1) Try.prog l #[.agg #[.int .i64 0, .int .i64 0, .int .u8 y]] W _ at hY1
  obtain ⟨fn, tmps, assign, body, hy, hRr⟩ := hY1
  rw [hc0.out] at hRr
  gi_wp2
  refine hRr.mono ?_
  rintro e W3 (⟨rfl, hJ3, hk3, hz3⟩ | ⟨rfl, hJx3⟩)
  · clear hy
    have hJ4 := hidden hJ3
    have hk4 := hidden hk3
    clear hJ3 hk3
    gi_wp2
    gi_loopw [4, 5] (fun s i wr => ∃ (k : Nat) (z : Int), k ≤ K ∧ s = .int .i64 z ∧ i = .int .i64 ((k : Int) + 1) ∧ 0 ≤ z ∧ z ≤ 256 ∧ Hid (z = (((chA D a k).length + 1 : Nat) : Int)) ∧ J (chA D a k) wr ∧ KeepS S W wr ∧ W.heap.size ≤ wr.heap.size)
      (fun _ i _ => K + 1 - (intOf i).toNat)
    case atStart => exact ⟨0, 2, Nat.zero_le _, rfl, rfl, by omega, by omega, rfl, hJ4.out, hk4.out, hz3⟩
    case round =>
      clear hJ4 hk4 hz3
      obtain ⟨k, z, hk, rfl, rfl, z0, z1, hz, hJs, hKp, hsz⟩ := hrel
      have d1 := (b1.keep hKp hS1).cell 0 _ rfl
      have d2 := (b2.keep hKp hS2).cell 0 _ rfl
      have dR : Hid (Rd8 wr (.slice (some ⟨bb, off, none⟩) m cap) D) := hidden (Rd.keep hR'.out hKp (by rw [hm.out]; exact hSv) hsz)
      obtain ⟨wq, hwq⟩ : ∃ x, x = wr := ⟨_, rfl⟩
      subst hwq
      replace hJs := hidden hJs
      replace hKp := hidden hKp
      by_cases hlt' : k < K
      · have k1 : (k : Int) + 1 ≤ (K : Int) := by omega
        have hc1 := hC.out (k + 1) (by omega) (by omega)
        obtain ⟨L, hL⟩ : ∃ L, lnT D a (k + 1) = L := ⟨_, rfl⟩
        have hL1 := lnT_le D a (k + 1)
        rw [hL] at hc1 hL1
        obtain ⟨hL2, -⟩ := hL1
        obtain ⟨T, hT⟩ : ∃ T, L - (chA D a k).length = T := ⟨_, rfl⟩
        obtain ⟨O, hO⟩ : ∃ O, (chA D a k).length = O := ⟨_, rfl⟩
        have hnx : Hid (chA D a (k + 1) = chP (chA D a k) (k + 1) T) := hidden (by rw [chP_full, hL, hT])
        have hO1 := chA_bd D a k
        have hO2 := chA_pos D a k
        rw [hO] at hz hT hO1 hO2
        replace hL := hidden hL
        replace hO := hidden hO
        rw [Int.natCast_add, Int.natCast_one] at hc1
        replace hc1 := hidden hc1
        gi_wp2_with (refine ⟨trivial, ?_⟩; gi_at_call 50; refine (callsIn_wide.2 (hc1.out _ dR.out)).mono ?_; rintro e w3 ⟨rfl, g3⟩)
        have gX : Ext wq w3 := g3
        have hJ5 := hidden (hJ _ _ _ none hJs.out gX.grown (fun r e => by cases e))
        have hK5 := hidden (hKp.out.trans (KeepS.ext gX (fun z hz => Nat.lt_of_lt_of_le (hlt z hz) hsz)))
        have hs5 : W.heap.size ≤ w3.heap.size := Nat.le_trans hsz gX.size
        clear g3 gX hJs hKp
        gi_loopw [4] (fun s wx => ∃ (i : Nat) (y : Int), i ≤ T ∧ s = .int .i64 y ∧ Hid (y = ((O + 1 + i : Nat) : Int)) ∧ J (chP (chA D a k) (k + 1) i) wx ∧ KeepS S W wx ∧ W.heap.size ≤ wx.heap.size) (fun s _ => 257 - (intOf s).toNat)
        case atStart => exact ⟨0, z, Nat.zero_le _, rfl, hz, by simp [chP]; exact hJ5.out, hK5.out, hs5⟩
        case round =>
          clear hJ5 hK5 hs5
          obtain ⟨i, y, hi, rfl, hy5, hJi, hKi5, hsi⟩ := hrel
          have hyO : y = ((O + 1 + i : Nat) : Int) := hy5.out
          obtain ⟨wi, hwi⟩ : ∃ x, x = wr := ⟨_, rfl⟩
          subst hwi
          have e1 := (b1.keep hKi5 hS1).cell 0 _ rfl
          have e2 := (b2.keep hKi5 hS2).cell 0 _ rfl
          by_cases hit : i < T
          · have y1 : y ≤ (L : Int) := by omega
            have y0 : 0 ≤ y := by omega
            have y2 : y ≤ 255 := by omega
            have hsn : Hid (chP (chA D a k) (k + 1) i ++ [(y, (k : Int) + 1, 0)] = chP (chA D a k) (k + 1) (i + 1)) := hidden (by rw [chP_succ, hO.out, hyO]; rfl)
            have hY1 := hY (chP (chA D a k) (k + 1) i) (y, (k : Int) + 1, 0) wi hJi (by rw [chP_len, hO.out]; omega) (Or.inr ⟨O + 1 + i, k + 1, by rw [hyO]; rfl, by omega, by omega, by rw [hKK.out]; omega, by rw [hL.out]; omega⟩)
            rw [hsn.out] at hY1
            change YieldAt Fence.wide (n - 1) Try.prog l #[.agg #[.int .i64 y, .int .i64 ((k : Int) + 1), .int .u8 0]] wi _ at hY1
            obtain ⟨fn, tmps, assign, body, hy, hR2⟩ := hY1
            replace hy5 := hidden hyO
            replace hJi := hidden hJi
            replace hKi5 := hidden hKi5
            clear hyO hT
            gi_wp2
            refine hR2.mono ?_
            rintro e W3 (⟨rfl, hJ3, hk3, hz3⟩ | ⟨rfl, hJx3⟩)
            · have hk4 := hidden (hKi5.out.trans hk3)
              have hJ4 := hidden hJ3
              clear hJ3 hk3 hy
              gi_wp2
              go_roundw
              case rel => exact ⟨i + 1, y + 1, by omega, rfl, by have := hy5.out; show _ = _; omega, hJ4.out, hk4.out, by omega⟩
              case measure => simp [intOf]; omega
            · have hJ4 := hidden hJx3
              clear hJx3 hy
              gi_wp2
              refine bodyPost_ret (v := .tuple #[]) (by simp [results, Try.f49, go_sem]) rfl ⟨⟨_, rfl⟩, .inr ⟨_, trivial, hJ4.out⟩⟩
          · have y1 : ¬ y ≤ (L : Int) := by omega
            have hiT : i = T := by omega
            have hfin : Hid (chP (chA D a k) (k + 1) i = chA D a (k + 1)) := hidden (by rw [hnx.out, hiT])
            have y0 : 0 ≤ y := by omega
            have y2 : y ≤ 256 := by omega
            have hyN : Hid (y = (((chA D a (k + 1)).length + 1 : Nat) : Int)) := hidden (by rw [← hfin.out, chP_len, hO.out, hyO]; omega)
            replace hJi := hidden hJi
            replace hKi5 := hidden hKi5
            clear hyO hT hiT hy5 hz
            gi_wp2
            go_roundw
            case rel => exact ⟨k + 1, y, by omega, rfl, by go_num, y0, y2, hyN, by rw [← hfin.out]; exact hJi.out, hKi5.out, hsi⟩
            case measure => simp [intOf]; omega
      · have k1 : ¬ (k : Int) + 1 ≤ (K : Int) := by omega
        have k2 : k = K := by omega
        have k2 := hidden k2
        gi_wp2
        go_end0
        have hJe : J (chA D a K) wq := by have := hJs.out; rw [k2.out] at this; exact this
        exact ⟨⟨_, rfl⟩, .inl hJe⟩
  · have hJ4 := hidden hJx3
    clear hJx3 hy
    gi_wp2
    refine bodyPost_ret (v := .tuple #[]) (by simp [results, Try.f49, go_sem]) rfl ⟨⟨_, rfl⟩, .inr ⟨_, trivial, hJ4.out⟩⟩

/-- A choice at a place. -/
abbrev ChT (D : List Int) (a : Nat) := { t : Int × Int × Int // Chc D a (min 4096 a) t }
theorem choices_stops (n : Nat) (hn : 2 ≤ n) (E1 E2 a : Nat) (ad : Option Addr) (m c : Nat) (D : List Int) (hb : Bytes D) (ha : a < D.length) (hl : D.length ≤ 65536) (S : List Nat) (hS1 : E1 ∈ S) (hS2 : E2 ∈ S) (hSv : 0 < D.length → ∀ g, (Value.slice ad m c).ownBlock = some g → g ∈ S)
    (w : World) (hlt : ∀ z ∈ S, z < w.heap.size) (b1 : Blk w E1 22 [.slice ad m c]) (b2 : Blk w E2 3 [.int .i64 (a : Int)]) (hR : Rd8 w (.slice ad m c) D) :
    SeqStopsK Fence.wide n Try.prog 49 #[.pointer (some ⟨E1, 0, none⟩), .pointer (some ⟨E2, 0, none⟩)] (fun z : ChT D a => #[.agg #[.int .i64 z.1.1, .int .i64 z.1.2.1, .int .u8 z.1.2.2]]) (fun A B => KeepS S A B ∧ A.heap.size ≤ B.heap.size) (fun ys => ys.map (fun t : ChT D a => t.1) = chF D a) (fun _ => True) 256 w :=
  fun l J Jx W hW hJ hJx hY h0 => by
    have hE : Ext w W := hW
    refine (choices1_in n hn l E1 E2 a (.slice ad m c) D hb ha hl S hS1 hS2 hSv (fun l W => ∃ ys : List (ChT D a), ys.map (fun t : ChT D a => t.1) = l ∧ J ys W) (fun l W => ∃ ys : List (ChT D a), ys.map (fun t : ChT D a => t.1) = l ∧ Jx ys W) W
      (fun s A B row hs hg hr => by obtain ⟨ys, e, h⟩ := hs; exact ⟨ys, e, hJ ys A B row h hg hr⟩) (fun z hz => Nat.lt_of_lt_of_le (hlt z hz) hE.size) ?_ (b1.ext hE) (b2.ext hE) (Rd.ext hR hE) ⟨[], rfl, h0⟩).mono ?_
    · rintro pre z W1 ⟨ys, rfl, hJ1⟩ hlen hz
      rw [List.length_map] at hlen
      refine (hY ys ⟨z, hz⟩ W1 hJ1 hlen).mono ?_
      rintro e W' (⟨rfl, h1, h2⟩ | ⟨rfl, h1⟩)
      · exact Or.inl ⟨rfl, ⟨ys ++ [⟨z, hz⟩], by simp, h1⟩, h2⟩
      · exact Or.inr ⟨rfl, ⟨ys ++ [⟨z, hz⟩], by simp, h1⟩⟩
    · rintro e W' ⟨h1, ⟨zs, rfl, ys, h3, h4⟩ | ⟨pre, -, ys, -, h4⟩⟩
      · exact ⟨h1, .inl ⟨ys, h3, h4⟩⟩
      · exact ⟨h1, .inr ⟨ys, trivial, h4⟩⟩
end Go.Proofs.Ytjfdmhdmadnkoaa
