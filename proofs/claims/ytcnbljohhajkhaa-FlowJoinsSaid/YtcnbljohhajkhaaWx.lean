/- Layer 18: the plain law of joining. -/
import Derived.Test.YtcnbljohhajkhaaWo
import Derived.Test.YtcnbljohhajkhaaWg
namespace Go.Proofs.Ytcnbljohhajkhaa
set_option linter.unusedVariables false
set_option linter.unusedSimpArgs false

namespace Sy
def cat : Sy → Sy → Sy
  | nil, t => t
  | op x r, t => op x (cat r t)
  | blk x b z r, t => blk x b z (cat r t)
  | ife x b y c z r, t => ife x b y c z (cat r t)
theorem cod_cat (a b : Sy) : (a.cat b).cod = a.cod ++ b.cod := by
  induction a with
  | nil => rfl
  | op x r ih => simp [cat, cod, ih]
  | blk x b z r ih1 ih2 => simp [cat, cod, ih2]
  | ife x b y c z r ih1 ih2 ih3 => simp [cat, cod, ih3]
theorem len_cat (a b : Sy) : (a.cat b).len = a.len + b.len := by
  rw [← len_cod, cod_cat, List.length_append, len_cod, len_cod]
theorem wf_cat (a b : Sy) (L : Bool) (ha : a.wf L) (hb : b.wf L) : (a.cat b).wf L := by
  induction a with
  | nil => exact hb
  | op x r ih => exact ⟨ha.1, ha.2.1, ha.2.2.1, ha.2.2.2.1, ha.2.2.2.2.1, ih ha.2.2.2.2.2⟩
  | blk x b' z r ih1 ih2 => exact ⟨ha.1, ha.2.1, ha.2.2.1, ih2 ha.2.2.2⟩
  | ife x b' y c z r ih1 ih2 ih3 => exact ⟨ha.1, ha.2.1, ha.2.2.1, ha.2.2.2.1, ha.2.2.2.2.1, ih3 ha.2.2.2.2.2⟩
theorem dep_cat (a b : Sy) : (a.cat b).dep = max a.dep b.dep := by
  induction a with
  | nil => simp [cat, dep]
  | op x r ih => simp [cat, dep, ih]
  | blk x b' z r ih1 ih2 => simp only [cat, dep, ih2]; omega
  | ife x b' y c z r ih1 ih2 ih3 => simp only [cat, dep, ih3]; omega
theorem prt_cat (a b : Sy) (h : Bool) : ∀ (i : Nat) (lp : Int), (a.cat b).prt h i lp = a.prt h i lp ++ b.prt h (i + a.len) lp := by
  induction a with
  | nil => intros; rfl
  | op x r ih => intro i lp; simp [cat, prt, len, ih, show i + 1 + r.len = i + (r.len + 1) by omega]
  | blk x b' z r ih1 ih2 => intro i lp; simp [cat, prt, len, ih2, show i + b'.len + 2 + r.len = i + (b'.len + r.len + 2) by omega]
  | ife x b' y c z r ih1 ih2 ih3 => intro i lp; simp [cat, prt, len, ih3, show i + b'.len + c.len + 3 + r.len = i + (b'.len + c.len + r.len + 3) by omega]
/-- A place moved on. -/
def sh (k : Nat) (n : Int) : Int := if 0 ≤ n then n + k else n
theorem prt_sh (a : Sy) (h : Bool) (k : Nat) : ∀ (i : Nat) (lp : Int), (a.prt h i lp).map (sh k) = a.prt h (i + k) (sh k lp) := by
  have hs : ∀ n : Nat, sh k (n : Int) = ((n + k : Nat) : Int) := fun n => by unfold sh; rw [if_pos (by omega)]; omega
  induction a with
  | nil => intros; rfl
  | op x r ih =>
    intro i lp
    simp only [prt, List.map_cons, ih, show i + 1 + k = i + k + 1 by omega]
    congr 1
    split
    · rfl
    · rfl
  | blk x b z r ih1 ih2 =>
    intro i lp
    simp only [prt, List.map_cons, List.map_append, ih1, ih2, hs]
    rw [show i + b.len + 1 + k = i + k + b.len + 1 by omega, show i + 1 + k = i + k + 1 by omega, show i + b.len + 2 + k = i + k + b.len + 2 by omega]
    congr 2
    split
    · rw [hs, show i + b.len + 1 + k = i + k + b.len + 1 by omega]
    · rfl
  | ife x b y c z r ih1 ih2 ih3 =>
    intro i lp
    simp only [prt, List.map_cons, List.map_append, ih1, ih2, ih3, hs]
    rw [show i + b.len + 1 + k = i + k + b.len + 1 by omega, show i + 1 + k = i + k + 1 by omega, show i + b.len + 2 + k = i + k + b.len + 2 by omega, show i + b.len + c.len + 2 + k = i + k + b.len + c.len + 2 by omega, show i + b.len + c.len + 3 + k = i + k + b.len + c.len + 3 by omega]
end Sy
/-- How many blocks are open behind code. -/
def ht : List (Int × Int) → Int
  | [] => 0
  | x :: t => (if x.1 = 27 ∨ x.1 = 29 then 1 else if x.1 = 31 then -1 else 0) + ht t
theorem ht_app (a b : List (Int × Int)) : ht (a ++ b) = ht a + ht b := by
  induction a with
  | nil => simp [ht]
  | cons x t ih => simp only [List.cons_append, ht, ih]; omega
theorem ht_cod (S : Sy) : ∀ L, S.wf L → ht S.cod = 0 := by
  induction S with
  | nil => intros; rfl
  | op x r ih =>
    intro L w
    obtain ⟨w1, w2, w3, w4, w5, w6⟩ := w
    simp only [Sy.cod, ht, ih L w6]
    rw [if_neg (by omega), if_neg w4]
    rfl
  | blk x b z r ih1 ih2 =>
    intro L w
    obtain ⟨w1, w2, w3, w4⟩ := w
    simp only [Sy.cod, ht, ht_app, ih1 _ w3, ih2 L w4]
    rw [if_pos w1, if_neg (by omega), if_pos w2]
    rfl
  | ife x b y c z r ih1 ih2 ih3 =>
    intro L w
    obtain ⟨w1, w2, w3, w4, w5, w6⟩ := w
    simp only [Sy.cod, ht, ht_app, ih1 L w4, ih2 L w5, ih3 L w6]
    rw [if_pos (Or.inl w1), if_neg (by omega), if_neg (by omega), if_neg (by omega), if_pos w3]
    rfl
/-- Two cuts of a list. -/
theorem cut2 {α : Type} {A B : List α} {y : α} {X Z : List α} (h : A ++ B = X ++ y :: Z) : (∃ W, A = X ++ y :: W ∧ W ++ B = Z) ∨ (∃ W, X = A ++ W ∧ B = W ++ y :: Z) := by
  rcases List.append_eq_append_iff.1 h with ⟨W, h1, h2⟩ | ⟨W, h1, h2⟩
  · exact Or.inr ⟨W, h1, h2⟩
  · cases W with
    | nil => exact Or.inr ⟨[], by simpa using h1.symm, by simpa using h2.symm⟩
    | cons u W =>
      simp only [List.cons_append, List.cons.injEq] at h2
      obtain ⟨rfl, h2⟩ := h2
      exact Or.inl ⟨W, h1, h2.symm⟩
theorem ht_pre (S : Sy) : ∀ L (A B : List (Int × Int)), S.wf L → A ++ B = S.cod → 0 ≤ ht A := by
  induction S with
  | nil => intro L A B w h; simp only [Sy.cod, List.append_eq_nil_iff] at h; rw [h.1]; exact Int.le_refl 0
  | op x r ih =>
    intro L A B w h
    obtain ⟨w1, w2, w3, w4, w5, w6⟩ := w
    cases A with
    | nil => exact Int.le_refl 0
    | cons u A =>
      simp only [Sy.cod, List.cons_append, List.cons.injEq] at h
      obtain ⟨rfl, h⟩ := h
      have := ih L A B w6 h
      simp only [ht]
      rw [if_neg (by omega), if_neg w4]
      omega
  | blk x b z r ih1 ih2 =>
    intro L A B w h
    obtain ⟨w1, w2, w3, w4⟩ := w
    cases A with
    | nil => exact Int.le_refl 0
    | cons u A =>
      simp only [Sy.cod, List.cons_append, List.cons.injEq] at h
      obtain ⟨rfl, h⟩ := h
      simp only [ht]
      rw [if_pos w1]
      rcases cut2 h with ⟨W, rfl, hW⟩ | ⟨W, hW, -⟩
      · have := ih2 L W B w4 hW
        have h2 := ht_cod b _ w3
        simp only [ht_app, ht]
        rw [if_neg (by omega), if_pos w2]
        omega
      · have := ih1 _ A W w3 hW.symm
        omega
  | ife x b y c z r ih1 ih2 ih3 =>
    intro L A B w h
    obtain ⟨w1, w2, w3, w4, w5, w6⟩ := w
    cases A with
    | nil => exact Int.le_refl 0
    | cons u A =>
      simp only [Sy.cod, List.cons_append, List.cons.injEq] at h
      obtain ⟨rfl, h⟩ := h
      simp only [ht]
      rw [if_pos (Or.inl w1)]
      have hb := ht_cod b _ w4
      have hc := ht_cod c _ w5
      rcases cut2 h with ⟨W, rfl, hW⟩ | ⟨W, hW, -⟩
      · rcases cut2 hW with ⟨V, rfl, hV⟩ | ⟨V, hV, -⟩
        · have := ih3 L V B w6 hV
          simp only [ht_app, ht]
          rw [if_neg (by omega), if_neg (by omega), if_neg (by omega), if_pos w3]
          omega
        · have := ih2 _ W V w5 hV.symm
          simp only [ht_app, ht]
          rw [if_neg (by omega), if_neg (by omega)]
          omega
      · have := ih1 _ A W w4 hW.symm
        omega
/-- What stands ahead of code that is nested is nested, if the whole is. -/
theorem front (S : Sy) : ∀ (L : Bool) (X : List (Int × Int)) (Sb : Sy) (Lb : Bool), S.wf L → Sb.wf Lb → X ++ Sb.cod = S.cod → ∃ Sa : Sy, X = Sa.cod ∧ Sa.wf L ∧ Sa.dep ≤ S.dep := by
  have bad : ∀ (Sb : Sy) (Lb : Bool) (Y Z : List (Int × Int)), Sb.wf Lb → Sb.cod = Y ++ Z → ht Y < 0 → False := fun Sb Lb Y Z hw h hY => by
    have := ht_pre Sb Lb Y Z hw h.symm
    omega
  induction S with
  | nil => intro L X Sb Lb w wb h; simp only [Sy.cod, List.append_eq_nil_iff] at h; exact ⟨.nil, h.1, trivial, Nat.le_refl _⟩
  | op x r ih =>
    intro L X Sb Lb w wb h
    cases X with
    | nil => exact ⟨.nil, rfl, trivial, Nat.zero_le _⟩
    | cons u X =>
      simp only [Sy.cod, List.cons_append, List.cons.injEq] at h
      obtain ⟨rfl, h⟩ := h
      obtain ⟨Sa, rfl, h2, h3⟩ := ih L X Sb Lb w.2.2.2.2.2 wb h
      exact ⟨.op u Sa, rfl, ⟨w.1, w.2.1, w.2.2.1, w.2.2.2.1, w.2.2.2.2.1, h2⟩, h3⟩
  | blk x b z r ih1 ih2 =>
    intro L X Sb Lb w wb h
    obtain ⟨w1, w2, w3, w4⟩ := w
    cases X with
    | nil => exact ⟨.nil, rfl, trivial, Nat.zero_le _⟩
    | cons u X =>
      simp only [Sy.cod, List.cons_append, List.cons.injEq] at h
      obtain ⟨rfl, h⟩ := h
      rcases cut2 h with ⟨W, rfl, hW⟩ | ⟨W, hX, hSb⟩
      · obtain ⟨Sa, rfl, h2, h3⟩ := ih2 L W Sb Lb w4 wb hW
        exact ⟨.blk u b z Sa, by simp [Sy.cod], ⟨w1, w2, w3, h2⟩, by simp only [Sy.dep]; omega⟩
      · exfalso
        have g1 := ht_cod b _ w3
        have g2 := ht_pre b _ X W w3 hX.symm
        rw [hX, ht_app] at g1
        refine bad Sb Lb (W ++ [z]) r.cod wb (by rw [hSb]; simp) ?_
        rw [ht_app]
        simp only [ht]
        rw [if_neg (by omega), if_pos w2]
        omega
  | ife x b y c z r ih1 ih2 ih3 =>
    intro L X Sb Lb w wb h
    obtain ⟨w1, w2, w3, w4, w5, w6⟩ := w
    cases X with
    | nil => exact ⟨.nil, rfl, trivial, Nat.zero_le _⟩
    | cons u X =>
      simp only [Sy.cod, List.cons_append, List.cons.injEq] at h
      obtain ⟨rfl, h⟩ := h
      have gc := ht_cod c _ w5
      rcases cut2 h with ⟨W, rfl, hW⟩ | ⟨W, hX, hSb⟩
      · rcases cut2 hW with ⟨V, rfl, hV⟩ | ⟨V, hX, hSb⟩
        · obtain ⟨Sa, rfl, h2, h3⟩ := ih3 L V Sb Lb w6 wb hV
          exact ⟨.ife u b y c z Sa, by simp [Sy.cod], ⟨w1, w2, w3, w4, w5, h2⟩, by simp only [Sy.dep]; omega⟩
        · exfalso
          have g2 := ht_pre c _ W V w5 hX.symm
          rw [hX, ht_app] at gc
          refine bad Sb Lb (V ++ [z]) r.cod wb (by rw [hSb]; simp) ?_
          rw [ht_app]
          simp only [ht]
          rw [if_neg (by omega), if_pos w3]
          omega
      · exfalso
        have g1 := ht_cod b _ w4
        have g2 := ht_pre b _ X W w4 hX.symm
        rw [hX, ht_app] at g1
        refine bad Sb Lb (W ++ y :: (c.cod ++ [z])) r.cod wb (by rw [hSb]; simp) ?_
        simp only [ht_app, ht, gc]
        rw [if_neg (by omega), if_neg (by omega), if_neg (by omega), if_pos w3]
        omega
/-- Blocks without gaps. -/
def Cov : Int → T → Int → Prop
  | i, .nil, j => i = j
  | i, .cons _ f t _ _ r, j => f = i ∧ f < t ∧ Cov t r j
theorem cov_app (a b : T) : ∀ i k, Cov i (a.app b) k ↔ ∃ j, Cov i a j ∧ Cov j b k := by
  induction a with
  | nil => intro i k; exact ⟨fun h => ⟨i, rfl, h⟩, fun ⟨j, h1, h2⟩ => by rw [h1]; exact h2⟩
  | cons op f t b' o r _ _ ih =>
    intro i k
    simp only [T.app, Cov, ih]
    exact ⟨fun ⟨h1, h2, j, h3, h4⟩ => ⟨j, ⟨h1, h2, h3⟩, h4⟩, fun ⟨j, ⟨h1, h2, h3⟩, h4⟩ => ⟨h1, h2, j, h3, h4⟩⟩
theorem cov_addP (l : T) (i : Int) (i0 : Int) (h : Cov i0 l i) : Cov i0 (l.addP i) (i + 1) := by
  by_cases hl : l.lastOp = some (-1)
  · obtain ⟨l0, f, t, b, o, h1, h2⟩ := T.addP_old hl i
    rw [h2]
    rw [h1] at h
    rw [cov_app] at h ⊢
    obtain ⟨j, h3, h4, h5, h6⟩ := h
    simp only [Cov] at h6
    exact ⟨j, h3, h4, by omega, by simp only [Cov]; omega⟩
  · rw [T.addP_new hl, cov_app]
    exact ⟨i, h, rfl, by omega, rfl⟩
theorem cov_tr (S : Sy) : ∀ (i : Nat) (out : T) (i0 : Int), Cov i0 out (i : Int) → Cov i0 (S.tr i out) ((i + S.len : Nat) : Int) := by
  induction S with
  | nil => intro i out i0 h; exact h
  | op x r ih =>
    intro i out i0 h
    have := ih (i + 1) (out.addP i) i0 (by have := cov_addP out i i0 h; rw [show ((i + 1 : Nat) : Int) = (i : Int) + 1 by omega]; exact this)
    simp only [Sy.tr, Sy.len]
    rw [show i + (r.len + 1) = i + 1 + r.len by omega]
    exact this
  | blk x b z r ih1 ih2 =>
    intro i out i0 h
    simp only [Sy.tr, Sy.len]
    rw [show i + (b.len + r.len + 2) = i + b.len + 2 + r.len by omega]
    exact ih2 (i + b.len + 2) _ i0 ((cov_app _ _ _ _).2 ⟨i, h, rfl, by omega, rfl⟩)
  | ife x b y c z r ih1 ih2 ih3 =>
    intro i out i0 h
    simp only [Sy.tr, Sy.len]
    rw [show i + (b.len + c.len + r.len + 3) = i + b.len + c.len + 3 + r.len by omega]
    exact ih3 (i + b.len + c.len + 3) _ i0 ((cov_app _ _ _ _).2 ⟨i, h, rfl, by omega, rfl⟩)
theorem pair_is (C : List (Int × Int)) (hl : C.length ≤ 1024) : (∃ S : Sy, C = S.cod ∧ S.wf false ∧ S.dep ≤ 8 ∧ pairR C = (S.prt true 0 (-1), 0) ∧ parR C = (S.tr 0 .nil, 0, 0)) ∨ (pairR C = ([], 15) ∧ (parR C).2.2 = 15) := by
  rcases whole_law C with ⟨S, hC, hw, hd, -⟩ | ⟨e, hwe, -⟩
  · have hW := whole_of S hw hd
    rw [← hC] at hW
    exact Or.inl ⟨S, hC, hw, hd, by unfold pairR; rw [if_pos hl, hW], by unfold parR; rw [if_pos hl, hW]⟩
  · exact Or.inr ⟨by unfold pairR; rw [if_pos hl, hwe], by unfold parR; rw [if_pos hl, hwe]⟩
/-- The law of joining. -/
theorem joins_law (A B : List (Int × Int)) (ha : A.length ≤ 60) (hb : B.length ≤ 60) :
    ((pairR A).2 = 0 → (pairR B).2 = 0 → pairR (A ++ B) = ((pairR A).1 ++ (pairR B).1.map (Sy.sh A.length), 0) ∧ (parR (A ++ B)).2.2 = 0 ∧ Cov 0 (parR (A ++ B)).1 ((A ++ B).length : Int)) ∧
    (¬ ((pairR A).2 = 0 ∧ (pairR B).2 = 0) → (pairR A).2 ≠ 15 ∨ (pairR (A ++ B)).2 = 15 ∨ (pairR B).2 = 15) := by
  have hab : (A ++ B).length ≤ 1024 := by simp; omega
  rcases pair_is B (by omega) with ⟨Sb, hB, wb, db, pb, qb⟩ | ⟨pb, qb⟩
  · rcases pair_is A (by omega) with ⟨Sa, hA, wa, da, pa, qa⟩ | ⟨pa, qa⟩
    · refine ⟨fun _ _ => ?_, fun h => absurd ⟨by rw [pa], by rw [pb]⟩ h⟩
      have hw := Sy.wf_cat Sa Sb false wa wb
      have hd : (Sa.cat Sb).dep ≤ 8 := by rw [Sy.dep_cat]; omega
      have hc : A ++ B = (Sa.cat Sb).cod := by rw [Sy.cod_cat, ← hA, ← hB]
      have hW := whole_of (Sa.cat Sb) hw hd
      rw [← hc] at hW
      have hla : A.length = Sa.len := by rw [hA, Sy.len_cod]
      refine ⟨?_, ?_, ?_⟩
      · rw [pa, pb]
        unfold pairR
        rw [if_pos hab, hW]
        simp only
        rw [Sy.prt_cat, Sy.prt_sh, hla]
        rfl
      · unfold parR; rw [if_pos hab, hW]
      · unfold parR
        rw [if_pos hab, hW]
        simp only
        have := cov_tr (Sa.cat Sb) 0 .nil 0 rfl
        rw [hc, Sy.len_cod]
        simpa using this
    · refine ⟨fun h => by rw [pa] at h; simp at h, fun _ => ?_⟩
      rcases pair_is (A ++ B) hab with ⟨S, hS, w, d, -⟩ | ⟨p, -⟩
      · exfalso
        obtain ⟨Sa, hA, wa, da⟩ := front S false A Sb false w wb (by rw [← hB, hS])
        have hW := whole_of Sa wa (by omega)
        rw [← hA] at hW
        unfold pairR at pa
        rw [if_pos (by omega), hW] at pa
        simp at pa
      · exact Or.inr (Or.inl (by rw [p]))
  · exact ⟨fun _ h => by rw [pb] at h; simp at h, fun _ => Or.inr (Or.inr (by rw [pb]))⟩
end Go.Proofs.Ytcnbljohhajkhaa
