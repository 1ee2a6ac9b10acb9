/- Layers 32, 33: suffixes in order, the transform's rows (plain). -/
import Derived.Test.YtfebgcbkadmgiaaRows
namespace Go.Proofs.Ytfebgcbkadmgiaa.Suf
set_option linter.unusedVariables false

/-- Lexicographic order: strictly less. -/
def lt : List Int → List Int → Bool
  | [], [] => false
  | [], _ :: _ => true
  | _ :: _, [] => false
  | a :: l, b :: m => if a < b then true else if b < a then false else lt l m
theorem lt_nil_cons (a : Int) (l : List Int) : lt [] (a :: l) = true := rfl
theorem lt_nil (l : List Int) : lt l [] = false := by cases l <;> rfl
theorem lt_cons (a b : Int) (l m : List Int) : lt (a :: l) (b :: m) = (if a < b then true else if b < a then false else lt l m) := rfl
theorem lt_cons_same (a : Int) (l m : List Int) : lt (a :: l) (a :: m) = lt l m := by
  rw [lt_cons, if_neg (by omega), if_neg (by omega)]
theorem lt_irrefl : ∀ l, lt l l = false
  | [] => rfl
  | a :: l => by rw [lt_cons_same]; exact lt_irrefl l
theorem lt_trans : ∀ l m k, lt l m = true → lt m k = true → lt l k = true
  | [], [], k, h, _ => by cases h
  | [], _ :: _, [], _, h => by cases h
  | [], _ :: _, _ :: _, _, _ => rfl
  | _ :: _, [], k, h, _ => by cases h
  | _ :: _, _ :: _, [], _, h => by cases h
  | a :: l, b :: m, c :: k, h1, h2 => by
    rw [lt_cons] at h1 h2 ⊢
    by_cases ab : a < b
    · by_cases bc : b < c
      · rw [if_pos (by omega)]
      · rw [if_neg bc] at h2
        by_cases cb : c < b
        · rw [if_pos cb] at h2; cases h2
        · rw [if_pos (by omega)]
    · rw [if_neg ab] at h1
      by_cases ba : b < a
      · rw [if_pos ba] at h1; cases h1
      · rw [if_neg ba] at h1
        by_cases bc : b < c
        · rw [if_pos (by omega)]
        · rw [if_neg bc] at h2
          by_cases cb : c < b
          · rw [if_pos cb] at h2; cases h2
          · rw [if_neg cb] at h2
            rw [if_neg (by omega), if_neg (by omega)]
            exact lt_trans l m k h1 h2
theorem lt_total : ∀ l m, lt l m = false → lt m l = false → l = m
  | [], [], _, _ => rfl
  | [], _ :: _, h, _ => by cases h
  | _ :: _, [], _, h => by cases h
  | a :: l, b :: m, h1, h2 => by
    rw [lt_cons] at h1 h2
    by_cases ab : a < b
    · rw [if_pos ab] at h1; cases h1
    · rw [if_neg ab] at h1
      by_cases ba : b < a
      · rw [if_pos ba] at h2; cases h2
      · rw [if_neg ba] at h1 h2
        rw [if_neg ab] at h2
        obtain rfl : a = b := by omega
        rw [lt_total l m h1 h2]
theorem lt_asymm {l m : List Int} (h : lt l m = true) : lt m l = false := by
  cases h2 : lt m l with
  | false => rfl
  | true => have := lt_trans l m l h h2; rw [lt_irrefl] at this; cases this
theorem lt_tri (l m : List Int) : lt l m = true ∨ l = m ∨ lt m l = true := by
  cases h : lt l m with
  | true => exact Or.inl rfl
  | false =>
    cases h2 : lt m l with
    | true => exact Or.inr (Or.inr rfl)
    | false => exact Or.inr (Or.inl (lt_total l m h h2))
/-- What decides on the first parts decides on all. -/
theorem lt_app_of : ∀ (l m x y : List Int), lt l m = true → (l.length < m.length → x = []) → lt (l ++ x) (m ++ y) = true
  | [], [], _, _, h, _ => by cases h
  | [], b :: m, x, y, _, h2 => by rw [h2 (by simp)]; rfl
  | a :: l, [], _, _, h, _ => by cases h
  | a :: l, b :: m, x, y, h, h2 => by
    rw [lt_cons] at h
    show lt (a :: (l ++ x)) (b :: (m ++ y)) = true
    rw [lt_cons]
    by_cases ab : a < b
    · rw [if_pos ab]
    · rw [if_neg ab] at h ⊢
      by_cases ba : b < a
      · rw [if_pos ba] at h; cases h
      · rw [if_neg ba] at h ⊢
        exact lt_app_of l m x y h (fun hh => h2 (by simp; omega))
theorem lt_app_same : ∀ (l x y : List Int), lt (l ++ x) (l ++ y) = lt x y
  | [], _, _ => rfl
  | a :: l, x, y => by show lt (a :: (l ++ x)) (a :: (l ++ y)) = _; rw [lt_cons_same]; exact lt_app_same l x y
/-- The first L bytes of the suffix at i. -/
def pre (b : List Int) (L i : Nat) : List Int := (b.drop i).take L
theorem pre_len (b : List Int) (L i : Nat) : (pre b L i).length = min L (b.length - i) := by unfold pre; simp
theorem pre_two (b : List Int) (L i : Nat) : pre b (L + L) i = pre b L i ++ pre b L (i + L) := by
  unfold pre
  rw [List.take_add, List.drop_drop]
theorem pre_behind (b : List Int) (L i : Nat) (h : b.length ≤ i) : pre b L i = [] := by unfold pre; rw [List.drop_eq_nil_of_le h]; simp
theorem pre_all (b : List Int) (L i : Nat) (h : b.length ≤ i + L) : pre b L i = b.drop i := by unfold pre; rw [List.take_of_length_le]; simp; omega
theorem suf_split (b : List Int) (L i : Nat) : b.drop i = pre b L i ++ b.drop (i + L) := by
  unfold pre
  rw [← List.drop_drop, List.take_append_drop]
/-- Less by the first bytes: less. -/
theorem pre_lt {b : List Int} {L i j : Nat} (h : lt (pre b L i) (pre b L j) = true) : lt (b.drop i) (b.drop j) = true := by
  rw [suf_split b L i, suf_split b L j]
  refine lt_app_of _ _ _ _ h (fun hl => ?_)
  rw [pre_len, pre_len] at hl
  exact List.drop_eq_nil_of_le (by omega)
/-- Twice the length: first the one, then the other. -/
theorem pre_two_lt (b : List Int) (L i j : Nat) : lt (pre b (L + L) i) (pre b (L + L) j) = true ↔ lt (pre b L i) (pre b L j) = true ∨ (pre b L i = pre b L j ∧ lt (pre b L (i + L)) (pre b L (j + L)) = true) := by
  rw [pre_two, pre_two]
  have key : ∀ i j, lt (pre b L i) (pre b L j) = true → lt (pre b L i ++ pre b L (i + L)) (pre b L j ++ pre b L (j + L)) = true := by
    intro i j h
    refine lt_app_of _ _ _ _ h (fun hl => ?_)
    rw [pre_len, pre_len] at hl
    exact pre_behind b L _ (by omega)
  rcases lt_tri (pre b L i) (pre b L j) with h | h | h
  · exact ⟨fun _ => Or.inl h, fun _ => key i j h⟩
  · rw [h, lt_app_same, lt_irrefl]
    exact ⟨fun k => Or.inr ⟨rfl, k⟩, fun k => k.elim (fun k => absurd k (by decide)) (fun k => k.2)⟩
  · have h1 := lt_asymm h
    have h2 := lt_asymm (key j i h)
    rw [h1, h2]
    refine ⟨fun k => absurd k (by decide), fun k => ?_⟩
    rcases k with k | k
    · cases k
    · rw [k.1, lt_irrefl] at h
      cases h
theorem pre_inj {b : List Int} {L i j : Nat} (hi : i ≤ b.length) (hj : j ≤ b.length) (hL : b.length < i + L ∨ b.length < j + L) (h : pre b L i = pre b L j) : i = j := by
  have := congrArg List.length h
  rw [pre_len, pre_len] at this
  omega
theorem suf_inj {b : List Int} {i j : Nat} (hi : i ≤ b.length) (hj : j ≤ b.length) (h : b.drop i = b.drop j) : i = j := by
  have := congrArg List.length h
  simp at this
  omega
/-- How many suffixes are less than the one at p. -/
def rk (b : List Int) (p : Nat) : Nat := (List.range (b.length + 1)).countP fun q => lt (b.drop q) (b.drop p)
theorem countP_lt {α : Type} {P Q : α → Bool} : ∀ {l : List α}, (∀ x ∈ l, P x = true → Q x = true) → (∃ x ∈ l, Q x = true ∧ P x = false) → l.countP P < l.countP Q
  | [], _, h => by obtain ⟨x, hx, _⟩ := h; cases hx
  | a :: l, h1, h2 => by
    have hle : l.countP P ≤ l.countP Q := List.countP_mono_left fun x hx => h1 x (List.mem_cons_of_mem _ hx)
    have h1a := h1 a (by simp)
    rw [List.countP_cons, List.countP_cons]
    obtain ⟨x, hx, hq, hp⟩ := h2
    rcases List.mem_cons.1 hx with rfl | hx
    · rw [hq, hp]
      simp
      omega
    · have := countP_lt (l := l) (fun x hx => h1 x (List.mem_cons_of_mem _ hx)) ⟨x, hx, hq, hp⟩
      cases hPa : P a with
      | false => rw [show (if false = true then 1 else 0) = 0 from rfl]; split <;> omega
      | true => rw [h1a hPa]; simp; omega
theorem rk_lt {b : List Int} {p q : Nat} (hp : p ≤ b.length) (h : lt (b.drop p) (b.drop q) = true) : rk b p < rk b q := by
  refine countP_lt (fun x _ hx => lt_trans _ _ _ hx h) ⟨p, by simp; omega, h, lt_irrefl _⟩
theorem rk_inj {b : List Int} {p q : Nat} (hp : p ≤ b.length) (hq : q ≤ b.length) (h : rk b p = rk b q) : p = q := by
  rcases lt_tri (b.drop p) (b.drop q) with k | k | k
  · have := rk_lt hp k; omega
  · exact suf_inj hp hq k
  · have := rk_lt hq k; omega
theorem rk_lt_iff {b : List Int} {p q : Nat} (hp : p ≤ b.length) (hq : q ≤ b.length) : rk b p < rk b q ↔ lt (b.drop p) (b.drop q) = true := by
  refine ⟨fun h => ?_, rk_lt hp⟩
  rcases lt_tri (b.drop p) (b.drop q) with k | k | k
  · exact k
  · rw [suf_inj hp hq k] at h; omega
  · have := rk_lt hq k; omega
/-- The order of a byte string. -/
structure IsSA (b : List Int) (o : List Nat) : Prop where
  len : o.length = b.length + 1
  le : ∀ r (h : r < o.length), o[r] ≤ b.length
  row : ∀ r (h : r < o.length), rk b o[r] = r
  perm : o.Perm (List.range (b.length + 1))
theorem IsSA.unique {b : List Int} {o o' : List Nat} (h : IsSA b o) (h' : IsSA b o') : o = o' := by
  refine List.ext_getElem (h.len.trans h'.len.symm) fun r h1 h2 => ?_
  exact rk_inj (h.le r h1) (h'.le r h2) ((h.row r h1).trans (h'.row r h2).symm)
theorem IsSA.asc {b : List Int} {o : List Nat} (h : IsSA b o) {i j : Nat} (hi : i < o.length) (hj : j < o.length) : lt (b.drop o[i]) (b.drop o[j]) = true ↔ i < j := by
  rw [← rk_lt_iff (h.le i hi) (h.le j hj), h.row i hi, h.row j hj]
theorem IsSA.inj {b : List Int} {o : List Nat} (h : IsSA b o) {i j : Nat} (hi : i < o.length) (hj : j < o.length) (e : o[i] = o[j]) : i = j := by
  rw [← h.row i hi, ← h.row j hj, e]
/-- A permutation that ascends strictly is the order. -/
theorem sa_of {b : List Int} {o : List Nat} (hp : o.Perm (List.range (b.length + 1))) (ha : ∀ i j (hi : i < o.length) (hj : j < o.length), i < j → lt (b.drop o[i]) (b.drop o[j]) = true) : IsSA b o := by
  have hl : o.length = b.length + 1 := by rw [hp.length_eq]; simp
  refine ⟨hl, fun r h => ?_, fun r h => ?_, hp⟩
  · have := hp.mem_iff.1 (List.getElem_mem h)
    simp at this
    omega
  · unfold rk
    rw [← hp.countP_eq]
    have e : ∀ (l : List Nat) (k : Nat) (hk : l = o.drop k) (hkl : k ≤ o.length), l.countP (fun q => lt (b.drop q) (b.drop o[r])) = (r - k) := by
      intro l
      induction l with
      | nil =>
        intro k hk hkl
        have : o.length ≤ k := by
          have := congrArg List.length hk
          simp at this
          omega
        simp
        omega
      | cons a l ih =>
        intro k hk hkl
        have hkl2 : k < o.length := by
          have := congrArg List.length hk
          simp at this
          omega
        rw [List.drop_eq_getElem_cons hkl2] at hk
        simp only [List.cons.injEq] at hk
        obtain ⟨rfl, hk⟩ := hk
        rw [List.countP_cons, ih (k + 1) hk (by omega)]
        by_cases h1 : k < r
        · rw [ha k r hkl2 h h1]; simp; omega
        · by_cases h2 : k = r
          · subst h2; rw [lt_irrefl]; simp
          · rw [lt_asymm (ha r k h hkl2 (by omega))]; simp; omega
    rw [e o 0 (by simp) (by omega)]
    omega
/-- A rank by the first L bytes. -/
structure RkOk (b : List Int) (L : Nat) (rank : List Int) : Prop where
  len : rank.length = b.length + 1
  end0 : rank.getD b.length 0 = 0
  lo : ∀ i, i ≤ b.length → 0 ≤ rank.getD i 0
  ord : ∀ i j, i ≤ b.length → j ≤ b.length → (rank.getD i 0 < rank.getD j 0 ↔ lt (pre b L i) (pre b L j) = true)
theorem RkOk.eq {b : List Int} {L : Nat} {rank : List Int} (h : RkOk b L rank) {i j : Nat} (hi : i ≤ b.length) (hj : j ≤ b.length) : rank.getD i 0 = rank.getD j 0 ↔ pre b L i = pre b L j := by
  have h1 := h.ord i j hi hj
  have h2 := h.ord j i hj hi
  constructor
  · intro e
    refine lt_total _ _ ?_ ?_
    · cases k : lt (pre b L i) (pre b L j) with
      | false => rfl
      | true => have := h1.2 k; omega
    · cases k : lt (pre b L j) (pre b L i) with
      | false => rfl
      | true => have := h2.2 k; omega
  · intro e
    rw [e, lt_irrefl] at h1
    rw [← e, lt_irrefl] at h2
    have a1 : ¬ rank.getD i 0 < rank.getD j 0 := fun k => absurd (h1.1 k) (by decide)
    have a2 : ¬ rank.getD j 0 < rank.getD i 0 := fun k => absurd (h2.1 k) (by decide)
    omega
/-- The rank of the rest. -/
def rst (b : List Int) (L : Nat) (rank : List Int) (i : Nat) : Int := if i + L ≤ b.length then rank.getD (i + L) 0 else 0
def cmpI (x y : Int) : Int := if x < y then -1 else if y < x then 1 else 0
def cmpR (b : List Int) (L : Nat) (rank : List Int) (x y : Nat) : Int :=
  if cmpI (rank.getD x 0) (rank.getD y 0) ≠ 0 then cmpI (rank.getD x 0) (rank.getD y 0) else cmpI (rst b L rank x) (rst b L rank y)
theorem cmpI_neg (x y : Int) : cmpI x y < 0 ↔ x < y := by
  unfold cmpI; split
  · omega
  · split <;> omega
theorem cmpI_zero (x y : Int) : cmpI x y = 0 ↔ x = y := by
  unfold cmpI; split
  · omega
  · split <;> omega
theorem rst_is {b : List Int} {L : Nat} {rank : List Int} (h : RkOk b L rank) (i : Nat) : ∃ j, j ≤ b.length ∧ rst b L rank i = rank.getD j 0 ∧ pre b L (i + L) = pre b L j := by
  unfold rst
  by_cases hi : i + L ≤ b.length
  · exact ⟨i + L, hi, if_pos hi, rfl⟩
  · exact ⟨b.length, Nat.le_refl _, by rw [if_neg hi, h.end0], by rw [pre_behind _ _ _ (by omega), pre_behind _ _ _ (Nat.le_refl _)]⟩
theorem cmpR_neg {b : List Int} {L : Nat} {rank : List Int} (h : RkOk b L rank) {x y : Nat} (hx : x ≤ b.length) (hy : y ≤ b.length) : cmpR b L rank x y < 0 ↔ lt (pre b (L + L) x) (pre b (L + L) y) = true := by
  rw [pre_two_lt]
  obtain ⟨x', hx', ex, px⟩ := rst_is h x
  obtain ⟨y', hy', ey, py⟩ := rst_is h y
  unfold cmpR
  rw [ex, ey, px, py]
  have h1 := h.ord x y hx hy
  have h2 := h.eq hx hy
  have h3 := h.ord x' y' hx' hy'
  by_cases hz : cmpI (rank.getD x 0) (rank.getD y 0) = 0
  · rw [if_neg (by simpa using hz), cmpI_neg, h3]
    have e := (cmpI_zero _ _).1 hz
    have hp := h2.1 e
    constructor
    · exact fun k => Or.inr ⟨hp, k⟩
    · rintro (k | k)
      · rw [hp, lt_irrefl] at k; cases k
      · exact k.2
  · rw [if_pos hz, cmpI_neg, h1]
    constructor
    · exact Or.inl
    · rintro (k | k)
      · exact k
      · exact absurd ((cmpI_zero _ _).2 (h2.2 k.1)) hz
theorem cmpR_zero {b : List Int} {L : Nat} {rank : List Int} (h : RkOk b L rank) {x y : Nat} (hx : x ≤ b.length) (hy : y ≤ b.length) : cmpR b L rank x y = 0 ↔ pre b (L + L) x = pre b (L + L) y := by
  obtain ⟨x', hx', ex, px⟩ := rst_is h x
  obtain ⟨y', hy', ey, py⟩ := rst_is h y
  have h2 := h.eq hx hy
  have h3 := h.eq hx' hy'
  unfold cmpR
  rw [pre_two, pre_two, ex, ey, px, py]
  by_cases hz : cmpI (rank.getD x 0) (rank.getD y 0) = 0
  · rw [if_neg (by simpa using hz), cmpI_zero, h3]
    have hp := h2.1 ((cmpI_zero _ _).1 hz)
    rw [hp, List.append_cancel_left_eq]
  · rw [if_pos hz]
    refine ⟨fun k => absurd k hz, fun k => ?_⟩
    exfalso
    apply hz
    rw [cmpI_zero, h2]
    have hl := congrArg List.length k
    simp only [List.length_append, pre_len] at hl
    have hle : (pre b L x).length = (pre b L y).length := by
      have hx2 := congrArg List.length px
      have hy2 := congrArg List.length py
      rw [pre_len] at hx2 hy2
      rw [pre_len, pre_len] at *
      omega
    exact (List.append_inj k hle).1
/-- The class of the k-th of a sorted list. -/
def cls (b : List Int) (L : Nat) (o : List Nat) : Nat → Int
  | 0 => 0
  | k + 1 => cls b L o k + (if pre b L (o.getD k 0) = pre b L (o.getD (k + 1) 0) then 0 else 1)
def Asc (b : List Int) (L : Nat) (o : List Nat) : Prop := ∀ i j, i < j → j < o.length → lt (pre b L (o.getD j 0)) (pre b L (o.getD i 0)) = false
theorem cls_le {b : List Int} {L : Nat} {o : List Nat} : ∀ k, cls b L o k ≤ (k : Int) ∧ 0 ≤ cls b L o k
  | 0 => by unfold cls; omega
  | k + 1 => by have := cls_le (b := b) (L := L) (o := o) k; unfold cls; split <;> omega
theorem cls_mono {b : List Int} {L : Nat} {o : List Nat} : ∀ k d, cls b L o k ≤ cls b L o (k + d)
  | k, 0 => Int.le_refl _
  | k, d + 1 => by
    have := cls_mono (b := b) (L := L) (o := o) k d
    show _ ≤ cls b L o (k + d) + _
    split <;> omega
theorem cls_eq {b : List Int} {L : Nat} {o : List Nat} (h : Asc b L o) : ∀ k d, k + d < o.length → (cls b L o k = cls b L o (k + d) ↔ pre b L (o.getD k 0) = pre b L (o.getD (k + d) 0))
  | k, 0, _ => by simp
  | k, d + 1, hl => by
    have ih := cls_eq h k d (by omega)
    have hm := cls_mono (b := b) (L := L) (o := o) k d
    show (cls b L o k = cls b L o (k + d) + (if pre b L (o.getD (k + d) 0) = pre b L (o.getD (k + d + 1) 0) then 0 else 1)) ↔ _ = pre b L (o.getD (k + d + 1) 0)
    by_cases e : pre b L (o.getD (k + d) 0) = pre b L (o.getD (k + d + 1) 0)
    · rw [if_pos e, Int.add_zero, ih, e]
    · rw [if_neg e]
      refine ⟨fun hh => by omega, fun hh => ?_⟩
      exfalso
      apply e
      have h1 : lt (pre b L (o.getD (k + d + 1) 0)) (pre b L (o.getD (k + d) 0)) = false := h (k + d) (k + d + 1) (by omega) hl
      have h2 : lt (pre b L (o.getD (k + d) 0)) (pre b L (o.getD (k + d + 1) 0)) = false := by
        rw [← hh]
        by_cases hd : d = 0
        · subst hd; exact lt_irrefl _
        · exact h k (k + d) (by omega) (by omega)
      exact lt_total _ _ h2 h1
theorem cls_ord {b : List Int} {L : Nat} {o : List Nat} (h : Asc b L o) {k m : Nat} (hk : k < o.length) (hm : m < o.length) : cls b L o k < cls b L o m ↔ lt (pre b L (o.getD k 0)) (pre b L (o.getD m 0)) = true := by
  by_cases hkm : k ≤ m
  · obtain ⟨d, rfl⟩ := Nat.exists_eq_add_of_le hkm
    have h1 := cls_eq h k d hm
    have h2 := cls_mono (b := b) (L := L) (o := o) k d
    constructor
    · intro hh
      rcases lt_tri (pre b L (o.getD k 0)) (pre b L (o.getD (k + d) 0)) with g | g | g
      · exact g
      · have := h1.2 g; omega
      · by_cases hd : d = 0
        · subst hd; simp at hh
        · rw [h k (k + d) (by omega) hm] at g; cases g
    · intro hh
      have : cls b L o k ≠ cls b L o (k + d) := fun e => by rw [h1.1 e, lt_irrefl] at hh; cases hh
      omega
  · obtain ⟨d, rfl⟩ := Nat.exists_eq_add_of_le (show m ≤ k by omega)
    have h2 := cls_mono (b := b) (L := L) (o := o) m d
    rw [h m (m + d) (by omega) hk]
    exact ⟨fun hh => by omega, fun hh => by cases hh⟩
/-- The next rank. -/
theorem rk_next {b : List Int} {L : Nat} {o : List Nat} {nx : List Int} (hA : Asc b L o) (hp : o.Perm (List.range (b.length + 1))) (hl : nx.length = b.length + 1) (hL : 0 < L) (hn : ∀ k, k < o.length → nx.getD (o.getD k 0) 0 = cls b L o k) : RkOk b L nx := by
  have hol : o.length = b.length + 1 := by rw [hp.length_eq]; simp
  have at_ : ∀ i, i ≤ b.length → ∃ k, k < o.length ∧ o.getD k 0 = i := by
    intro i hi
    have : i ∈ o := hp.mem_iff.2 (by simp; omega)
    obtain ⟨k, hk, e⟩ := List.getElem_of_mem this
    exact ⟨k, hk, by rw [List.getD_eq_getElem?_getD, List.getElem?_eq_getElem hk]; exact e⟩
  refine ⟨hl, ?_, fun i hi => ?_, fun i j hi hj => ?_⟩
  · obtain ⟨k, hk, e⟩ := at_ b.length (Nat.le_refl _)
    have h0 := hn k hk
    rw [e] at h0
    rw [h0]
    by_cases hk0 : k = 0
    · subst hk0; rfl
    · have h1 := hA 0 k (by omega) hk
      rw [e, pre_behind b L b.length (Nat.le_refl _)] at h1
      have h2 : pre b L (o.getD 0 0) = [] := by
        cases hq : pre b L (o.getD 0 0) with
        | nil => rfl
        | cons a l => rw [hq] at h1; cases h1
      have h3 := (cls_eq hA 0 k (by omega)).2 (by rw [Nat.zero_add, h2, e, pre_behind b L b.length (Nat.le_refl _)])
      rw [Nat.zero_add] at h3
      rw [← h3]
      rfl
  · obtain ⟨k, hk, rfl⟩ := at_ i hi
    rw [hn k hk]
    exact (cls_le k).2
  · obtain ⟨k, hk, rfl⟩ := at_ i hi
    obtain ⟨m, hm, rfl⟩ := at_ j hj
    rw [hn k hk, hn m hm]
    exact cls_ord hA hk hm
theorem cls_top {b : List Int} {L : Nat} {o : List Nat} : ∀ k d, cls b L o (k + d) = ((k + d : Nat) : Int) → cls b L o k = (k : Int)
  | k, 0, h => h
  | k, d + 1, h => by
    have h1 : cls b L o (k + d + 1) = ((k + d + 1 : Nat) : Int) := h
    have h2 := (cls_le (b := b) (L := L) (o := o) (k + d)).1
    unfold cls at h1
    refine cls_top k d ?_
    split at h1 <;> omega
/-- All are different: the list is the order. -/
theorem sa_done {b : List Int} {L : Nat} {o : List Nat} (hA : Asc b L o) (hp : o.Perm (List.range (b.length + 1))) (ht : cls b L o b.length = (b.length : Int)) : IsSA b o := by
  have hol : o.length = b.length + 1 := by rw [hp.length_eq]; simp
  refine sa_of hp fun i j hi hj hij => ?_
  have e1 := cls_top (b := b) (L := L) (o := o) i (b.length - i) (by rw [show i + (b.length - i) = b.length by omega]; exact ht)
  have e2 := cls_top (b := b) (L := L) (o := o) j (b.length - j) (by rw [show j + (b.length - j) = b.length by omega]; exact ht)
  have := (cls_ord hA hi hj).1 (by rw [e1, e2]; omega)
  rw [List.getD_eq_getElem?_getD, List.getElem?_eq_getElem hi, List.getD_eq_getElem?_getD, List.getElem?_eq_getElem hj] at this
  exact pre_lt this
/-- A length that is great enough. -/
theorem cls_long {b : List Int} {L : Nat} {o : List Nat} (hp : o.Perm (List.range (b.length + 1))) (hL : b.length < L) : ∀ k, k < o.length → cls b L o k = (k : Int)
  | 0, _ => rfl
  | k + 1, hk => by
    have ih := cls_long hp hL k (by omega)
    unfold cls
    rw [ih]
    have hnd : o.Nodup := hp.nodup_iff.2 List.nodup_range
    have hle : ∀ i, i < o.length → o.getD i 0 ≤ b.length := fun i hi => by
      have h1 : o.getD i 0 ∈ o := by rw [List.getD_eq_getElem?_getD, List.getElem?_eq_getElem hi]; exact List.getElem_mem hi
      have h2 := List.mem_range.1 (hp.mem_iff.1 h1)
      omega
    rw [if_neg (fun e => by
      have h1 := pre_inj (hle k (by omega)) (hle (k + 1) hk) (Or.inl (by omega)) e
      rw [List.getD_eq_getElem?_getD, List.getElem?_eq_getElem (by omega), List.getD_eq_getElem?_getD, List.getElem?_eq_getElem hk] at h1
      exact List.pairwise_iff_getElem.1 hnd k (k + 1) (by omega) hk (by omega) h1)]
    omega
/-- The first rank. -/
theorem rk_first {b : List Int} (hb : ∀ x ∈ b, 0 ≤ x) {rank : List Int} (hl : rank.length = b.length + 1) (h0 : rank.getD b.length 0 = 0) (h1 : ∀ i, i < b.length → rank.getD i 0 = b.getD i 0 + 1) : RkOk b 1 rank := by
  have hbd : ∀ i, i < b.length → 0 ≤ b.getD i 0 := fun i hi => hb _ (by rw [List.getD_eq_getElem?_getD, List.getElem?_eq_getElem hi]; exact List.getElem_mem hi)
  have hp1 : ∀ i, i < b.length → pre b 1 i = [b.getD i 0] := fun i hi => by
    unfold pre
    rw [List.drop_eq_getElem_cons hi, List.getD_eq_getElem?_getD, List.getElem?_eq_getElem hi]
    rfl
  refine ⟨hl, h0, fun i hi => ?_, fun i j hi hj => ?_⟩
  · by_cases hi2 : i < b.length
    · have := hbd i hi2; rw [h1 i hi2]; omega
    · rw [show i = b.length by omega, h0]; exact Int.le_refl _
  · by_cases hi2 : i < b.length
    · have ai := hbd i hi2
      rw [h1 i hi2, hp1 i hi2]
      by_cases hj2 : j < b.length
      · have aj := hbd j hj2
        rw [h1 j hj2, hp1 j hj2, lt_cons]
        by_cases hlt : b.getD i 0 < b.getD j 0
        · rw [if_pos hlt]; exact ⟨fun _ => rfl, fun _ => by omega⟩
        · rw [if_neg hlt]
          refine ⟨fun h => by omega, fun h => ?_⟩
          split at h
          · cases h
          · cases h
      · rw [show j = b.length by omega, h0, pre_behind b 1 b.length (Nat.le_refl _)]
        exact ⟨fun h => by omega, fun h => by cases h⟩
    · rw [show i = b.length by omega, h0, pre_behind b 1 b.length (Nat.le_refl _)]
      by_cases hj2 : j < b.length
      · have aj := hbd j hj2
        rw [h1 j hj2, hp1 j hj2]
        exact ⟨fun _ => rfl, fun _ => by omega⟩
      · rw [show j = b.length by omega, h0, pre_behind b 1 b.length (Nat.le_refl _)]
        exact ⟨fun h => by omega, fun h => by cases h⟩
/-- The transformed string. -/
def tr (b : List Int) (o : List Nat) : List Int := (o.filter (fun p => decide (p ≠ 0))).map fun p => b.getD (p - 1) 0
theorem range_getD (b : List Int) : (List.range b.length).map (fun q => b.getD q 0) = b := by
  refine List.ext_getElem (by simp) fun i h1 h2 => ?_
  simp at h1
  simp [h1]
theorem countP_range (b : List Int) (P : Int → Bool) : (List.range b.length).countP (fun q => P (b.getD q 0)) = b.countP P := by
  conv => rhs; rw [← range_getD b]
  rw [List.countP_map]
  rfl
theorem countP_tr (b : List Int) (P : Int → Bool) : ∀ o : List Nat, (tr b o).countP P = o.countP (fun p => decide (p ≠ 0) && P (b.getD (p - 1) 0))
  | [] => rfl
  | a :: o => by
    have ih := countP_tr b P o
    unfold tr at ih ⊢
    rw [List.countP_cons, List.filter_cons]
    by_cases h : a = 0
    · subst h
      rw [if_neg (by simp), ih]
      simp
    · rw [if_pos (by simpa using h), List.map_cons, List.countP_cons, ih]
      simp [h]
theorem countP_zero (n : Nat) (P : Nat → Bool) : (List.range (n + 1)).countP (fun p => decide (p ≠ 0) && P (p - 1)) = (List.range n).countP P := by
  rw [List.range_succ_eq_map, List.countP_cons, List.countP_map]
  simp [Function.comp_def]
theorem tr_countP {b : List Int} {o : List Nat} (h : o.Perm (List.range (b.length + 1))) (P : Int → Bool) : (tr b o).countP P = b.countP P := by
  rw [countP_tr, h.countP_eq, countP_zero b.length (fun q => P (b.getD q 0)), countP_range]
theorem tr_length {b : List Int} {o : List Nat} (h : o.Perm (List.range (b.length + 1))) : (tr b o).length = b.length := by
  have := tr_countP h (fun _ => true)
  simpa using this
theorem countP_or_disj {α : Type} (P Q : α → Bool) : ∀ l : List α, (∀ x ∈ l, P x = true → Q x = false) → l.countP (fun x => P x || Q x) = l.countP P + l.countP Q
  | [], _ => rfl
  | a :: l, h => by
    have ih := countP_or_disj P Q l (fun x hx => h x (List.mem_cons_of_mem _ hx))
    have ha := h a (by simp)
    rw [List.countP_cons, List.countP_cons, List.countP_cons, ih]
    cases hp : P a with
    | true => rw [ha hp]; simp; omega
    | false => cases hq : Q a <;> simp <;> omega
theorem drop_cons {b : List Int} {q : Nat} (h : q < b.length) : b.drop q = b.getD q 0 :: b.drop (q + 1) := by
  rw [List.drop_eq_getElem_cons h, List.getD_eq_getElem?_getD, List.getElem?_eq_getElem h]; rfl
theorem three (v c : Int) (L : Bool) : (if v < c then true else if c < v then false else L) = (decide (v < c) || (decide (v = c) && L)) := by
  by_cases h1 : v < c
  · rw [if_pos h1, decide_eq_true h1]; rfl
  · rw [if_neg h1, decide_eq_false h1]
    by_cases h2 : c < v
    · rw [if_pos h2, decide_eq_false (by omega)]; rfl
    · rw [if_neg h2, decide_eq_true (by omega)]; rfl
theorem decide_two {v c : Int} {L : Bool} (h : v < c) : (decide (v = c) && L) = false := by rw [decide_eq_false (by omega)]; rfl
/-- The row of the suffix with one byte more. -/
theorem IsSA.lf {b : List Int} {o : List Nat} (h : IsSA b o) {r : Nat} (hr : r < o.length) (h0 : o[r] ≠ 0) :
    1 + b.countP (fun x => decide (x < b.getD (o[r] - 1) 0)) + (tr b (o.take r)).countP (fun x => decide (x = b.getD (o[r] - 1) 0)) = rk b (o[r] - 1) := by
  have hle := h.le r hr
  obtain ⟨p, hp⟩ : ∃ p, o[r] = p + 1 := ⟨o[r] - 1, by omega⟩
  have hrow := h.row r hr
  rw [hp] at hle hrow ⊢
  rw [Nat.add_sub_cancel]
  obtain ⟨c, hc⟩ : ∃ c, b.getD p 0 = c := ⟨_, rfl⟩
  rw [hc]
  unfold rk
  rw [List.range_succ, List.countP_append, List.countP_singleton]
  have e1 : lt (b.drop b.length) (b.drop p) = true := by rw [List.drop_length, drop_cons (show p < b.length by omega)]; rfl
  rw [if_pos e1]
  have e2 : (List.range b.length).countP (fun q => lt (b.drop q) (b.drop p)) = (List.range b.length).countP (fun q => decide (b.getD q 0 < c) || (decide (b.getD q 0 = c) && lt (b.drop (q + 1)) (b.drop (p + 1)))) := by
    refine List.countP_congr fun q hq => ?_
    have hq2 := List.mem_range.1 hq
    rw [drop_cons hq2, drop_cons (show p < b.length by omega), hc, lt_cons, three]
  rw [e2, countP_or_disj _ _ _ (fun q _ hq => by
    have hq2 : b.getD q 0 < c := by simpa using hq
    exact decide_two hq2)]
  rw [countP_range b (fun x => decide (x < c)), countP_tr]
  have e3 : o.countP (fun p' => (decide (p' ≠ 0) && decide (b.getD (p' - 1) 0 = c)) && decide (rk b p' < r)) = (o.take r).countP (fun p' => decide (p' ≠ 0) && decide (b.getD (p' - 1) 0 = c)) := by
    conv => lhs; rw [← List.take_append_drop r o]
    rw [List.countP_append]
    have a1 : (o.take r).countP (fun p' => (decide (p' ≠ 0) && decide (b.getD (p' - 1) 0 = c)) && decide (rk b p' < r)) = (o.take r).countP (fun p' => decide (p' ≠ 0) && decide (b.getD (p' - 1) 0 = c)) := by
      refine List.countP_congr fun x hx => ?_
      obtain ⟨i, hi, rfl⟩ := List.getElem_of_mem hx
      rw [List.length_take] at hi
      rw [List.getElem_take]
      have := h.row i (by omega)
      have : rk b o[i] < r := by omega
      simp [this]
    have a2 : (o.drop r).countP (fun p' => (decide (p' ≠ 0) && decide (b.getD (p' - 1) 0 = c)) && decide (rk b p' < r)) = 0 := by
      rw [List.countP_eq_zero]
      intro x hx
      obtain ⟨i, hi, rfl⟩ := List.getElem_of_mem hx
      rw [List.length_drop] at hi
      rw [List.getElem_drop]
      have := h.row (r + i) (by omega)
      have : ¬ rk b o[r + i] < r := by omega
      simp [this]
    rw [a1, a2]
    omega
  rw [← e3, h.perm.countP_eq]
  have e4 : (List.range (b.length + 1)).countP (fun p' => (decide (p' ≠ 0) && decide (b.getD (p' - 1) 0 = c)) && decide (rk b p' < r)) = (List.range b.length).countP (fun q => decide (b.getD q 0 = c) && decide (rk b (q + 1) < r)) := by
    rw [← countP_zero b.length (fun q => decide (b.getD q 0 = c) && decide (rk b (q + 1) < r))]
    refine List.countP_congr fun x _ => ?_
    by_cases hx : x = 0
    · simp [hx]
    · rw [show x - 1 + 1 = x by omega]
      simp [Bool.and_assoc]
  rw [e4]
  have e5 : (List.range b.length).countP (fun q => decide (b.getD q 0 = c) && decide (rk b (q + 1) < r)) = (List.range b.length).countP (fun q => decide (b.getD q 0 = c) && lt (b.drop (q + 1)) (b.drop (p + 1))) := by
    refine List.countP_congr fun q hq => ?_
    have hq2 := List.mem_range.1 hq
    have := rk_lt_iff (b := b) (p := q + 1) (q := p + 1) (by omega) (by omega)
    rw [hrow] at this
    cases hl : lt (b.drop (q + 1)) (b.drop (p + 1)) with
    | true => simp [this.2 hl]
    | false =>
      have : ¬ rk b (q + 1) < r := fun k => by have := this.1 k; rw [hl] at this; cases this
      simp [this]
  rw [e5]
  omega
theorem rk_end (b : List Int) : rk b b.length = 0 := by
  unfold rk
  rw [List.countP_eq_zero]
  intro q _
  rw [List.drop_length, lt_nil]
  decide
theorem IsSA.at_ {b : List Int} {o : List Nat} (h : IsSA b o) {p : Nat} (hp : p ≤ b.length) : ∃ hr : rk b p < o.length, o[rk b p] = p := by
  have : p ∈ o := h.perm.mem_iff.2 (by simp; omega)
  obtain ⟨i, hi, rfl⟩ := List.getElem_of_mem this
  have e := h.row i hi
  exact ⟨by rw [e]; exact hi, by simp only [e]⟩
theorem tr_take_len {b : List Int} {o : List Nat} (h : IsSA b o) {r : Nat} (hr : r ≤ o.length) : (tr b (o.take r)).length = if rk b 0 < r then r - 1 else r := by
  unfold tr
  rw [List.length_map]
  have key : ∀ r, r ≤ o.length → ((o.take r).filter (fun p => decide (p ≠ 0))).length = if rk b 0 < r then r - 1 else r := by
    intro r
    induction r with
    | zero => intro _; simp
    | succ r ih =>
      intro hr
      have hr2 : r < o.length := by omega
      rw [List.take_add_one, List.getElem?_eq_getElem hr2, List.filter_append, List.length_append, ih (by omega)]
      have hrow := h.row r hr2
      by_cases h0 : o[r] = 0
      · rw [h0] at hrow
        simp [h0]
        rw [hrow]
        rw [if_neg (by omega), if_pos (by omega)]
      · have hne : rk b 0 ≠ r := fun e => by subst e; exact h0 (h.at_ (Nat.zero_le _)).2
        simp [h0]
        by_cases h1 : rk b 0 < r
        · rw [if_pos h1, if_pos (by omega)]; omega
        · rw [if_neg h1, if_neg (by omega)]
  exact key r hr
end Go.Proofs.Ytfebgcbkadmgiaa.Suf
