/- Layer 18: the plain law of wrapping: code has one reading. -/
import Derived.Test.YtcnbljohhajkhaaWo
namespace Go.Proofs.Ytcnbljohhajkhaa
set_option linter.unusedVariables false
set_option linter.unusedSimpArgs false

theorem not_stop {x : Int × Int} {t R : List (Int × Int)} (h : stops R) (e : R = x :: t) (h1 : x.1 ≠ 28) (h2 : x.1 ≠ 31) : False := by
  rcases h with rfl | ⟨y, u, rfl, hy⟩
  · cases e
  · cases e; omega
theorem uniq (S1 : Sy) : ∀ (S2 : Sy) (L1 L2 : Bool) (R1 R2 : List (Int × Int)), S1.wf L1 → S2.wf L2 → stops R1 → stops R2 → S1.cod ++ R1 = S2.cod ++ R2 → S1 = S2 ∧ R1 = R2 := by
  induction S1 with
  | nil =>
    intro S2 L1 L2 R1 R2 w1 w2 h1 h2 e
    cases S2 with
    | nil => exact ⟨rfl, e⟩
    | op x r => exact (not_stop h1 (by simpa [Sy.cod] using e) w2.2.1 w2.2.2.2.1).elim
    | blk x b z r => exact (not_stop h1 (by simpa [Sy.cod] using e) (by have := w2.1; omega) (by have := w2.1; omega)).elim
    | ife x b y c z r => exact (not_stop h1 (by simpa [Sy.cod] using e) (by have := w2.1; omega) (by have := w2.1; omega)).elim
  | op x r ih =>
    intro S2 L1 L2 R1 R2 w1 w2 h1 h2 e
    obtain ⟨a1, a2, a3, a4, a5, a6⟩ := w1
    cases S2 with
    | nil => exact (not_stop h2 (by simpa [Sy.cod] using e.symm) a2 a4).elim
    | op x' r' =>
      simp only [Sy.cod, List.cons_append, List.cons.injEq] at e
      obtain ⟨rfl, e⟩ := e
      obtain ⟨rfl, h⟩ := ih r' L1 L2 R1 R2 a6 w2.2.2.2.2.2 h1 h2 e
      exact ⟨rfl, h⟩
    | blk x' b z r' =>
      simp only [Sy.cod, List.cons_append, List.cons.injEq] at e
      obtain ⟨rfl, e⟩ := e
      have := w2.1; omega
    | ife x' b y c z r' =>
      simp only [Sy.cod, List.cons_append, List.cons.injEq] at e
      obtain ⟨rfl, e⟩ := e
      have := w2.1; omega
  | blk x b z r ih1 ih2 =>
    intro S2 L1 L2 R1 R2 w1 w2 h1 h2 e
    obtain ⟨a1, a2, a3, a4⟩ := w1
    cases S2 with
    | nil => exact (not_stop h2 (by simpa [Sy.cod] using e.symm) (by omega) (by omega)).elim
    | op x' r' =>
      simp only [Sy.cod, List.cons_append, List.cons.injEq] at e
      obtain ⟨rfl, e⟩ := e
      have := w2.1; have := w2.2.2.1; omega
    | blk x' b' z' r' =>
      obtain ⟨c1, c2, c3, c4⟩ := w2
      simp only [Sy.cod, List.cons_append, List.append_assoc, List.cons.injEq] at e
      obtain ⟨rfl, e⟩ := e
      obtain ⟨rfl, e3⟩ := ih1 b' _ _ (z :: (r.cod ++ R1)) (z' :: (r'.cod ++ R2)) a3 c3 (Or.inr ⟨z, _, rfl, Or.inr a2⟩) (Or.inr ⟨z', _, rfl, Or.inr c2⟩) e
      obtain ⟨rfl, e4⟩ := List.cons.inj e3
      obtain ⟨rfl, h⟩ := ih2 r' L1 L2 R1 R2 a4 c4 h1 h2 e4
      exact ⟨rfl, h⟩
    | ife x' b' y' c' z' r' =>
      obtain ⟨c1, c2, c3, c4, c5, c6⟩ := w2
      simp only [Sy.cod, List.cons_append, List.append_assoc, List.cons.injEq] at e
      obtain ⟨rfl, e⟩ := e
      have e2 := (ih1 b' _ _ _ _ a3 c4 (Or.inr ⟨z, _, rfl, Or.inr a2⟩) (Or.inr ⟨y', _, rfl, Or.inl c2⟩) e).2
      have hz : z = y' := by injection e2
      rw [hz] at a2
      omega
  | ife x b y c z r ih1 ih2 ih3 =>
    intro S2 L1 L2 R1 R2 w1 w2 h1 h2 e
    obtain ⟨a1, a2, a3, a4, a5, a6⟩ := w1
    cases S2 with
    | nil => exact (not_stop h2 (by simpa [Sy.cod] using e.symm) (by omega) (by omega)).elim
    | op x' r' =>
      simp only [Sy.cod, List.cons_append, List.cons.injEq] at e
      obtain ⟨rfl, e⟩ := e
      have := w2.1; omega
    | blk x' b' z' r' =>
      obtain ⟨c1, c2, c3, c4⟩ := w2
      simp only [Sy.cod, List.cons_append, List.append_assoc, List.cons.injEq] at e
      obtain ⟨rfl, e⟩ := e
      have e2 := (ih1 b' _ _ _ _ a4 c3 (Or.inr ⟨y, _, rfl, Or.inl a2⟩) (Or.inr ⟨z', _, rfl, Or.inr c2⟩) e).2
      have hz : y = z' := by injection e2
      rw [hz] at a2
      omega
    | ife x' b' y' c' z' r' =>
      obtain ⟨c1, c2, c3, c4, c5, c6⟩ := w2
      simp only [Sy.cod, List.cons_append, List.append_assoc, List.cons.injEq] at e
      obtain ⟨rfl, e⟩ := e
      obtain ⟨rfl, e3⟩ := ih1 b' _ _ (y :: (c.cod ++ z :: (r.cod ++ R1))) (y' :: (c'.cod ++ z' :: (r'.cod ++ R2))) a4 c4 (Or.inr ⟨y, _, rfl, Or.inl a2⟩) (Or.inr ⟨y', _, rfl, Or.inl c2⟩) e
      obtain ⟨rfl, e4⟩ := List.cons.inj e3
      obtain ⟨rfl, e5⟩ := ih2 c' _ _ (z :: (r.cod ++ R1)) (z' :: (r'.cod ++ R2)) a5 c5 (Or.inr ⟨z, _, rfl, Or.inr a3⟩) (Or.inr ⟨z', _, rfl, Or.inr c3⟩) e4
      obtain ⟨rfl, e6⟩ := List.cons.inj e5
      obtain ⟨rfl, h⟩ := ih3 r' L1 L2 R1 R2 a6 c6 h1 h2 e6
      exact ⟨rfl, h⟩
theorem wf_mono (S : Sy) : ∀ L, S.wf false → S.wf L := by
  have main : ∀ (S : Sy) (L L' : Bool), (L = true → L' = true) → S.wf L → S.wf L' := by
    intro S
    induction S with
    | nil => intros; trivial
    | op x r ih => intro L L' h w; exact ⟨w.1, w.2.1, w.2.2.1, w.2.2.2.1, fun h30 => h (w.2.2.2.2.1 h30), ih L L' h w.2.2.2.2.2⟩
    | blk x b z r ih1 ih2 => intro L L' h w; exact ⟨w.1, w.2.1, ih1 _ _ (by cases L <;> cases L' <;> simp_all) w.2.2.1, ih2 L L' h w.2.2.2⟩
    | ife x b y c z r ih1 ih2 ih3 => intro L L' h w; exact ⟨w.1, w.2.1, w.2.2.1, ih1 L L' h w.2.2.2.1, ih2 L L' h w.2.2.2.2.1, ih3 L L' h w.2.2.2.2.2⟩
  intro L w
  exact main S false L (by simp) w
/-- A tree whose places are greater by one. -/
def mvF : T → T
  | .nil => .nil
  | .cons op f t b o r => .cons op (f + 1) (t + 1) (mvF b) (mvF o) (mvF r)
theorem mvF_app (a b : T) : mvF (a.app b) = (mvF a).app (mvF b) := by
  induction a with
  | nil => rfl
  | cons op f t b' o r _ _ ih => simp only [T.app, mvF, ih]
theorem mvF_last (l : T) : (mvF l).lastOp = l.lastOp := by
  induction l with
  | nil => rfl
  | cons op f t b o r _ _ ih =>
    cases r with
    | nil => rfl
    | cons => simp only [mvF, T.lastOp] at ih ⊢; exact ih
theorem mvF_addP (l : T) (i : Int) : mvF (l.addP i) = (mvF l).addP (i + 1) := by
  by_cases h : l.lastOp = some (-1)
  · obtain ⟨l0, f, t, b, o, h1, h2⟩ := T.addP_old h i
    rw [h2, h1, mvF_app, mvF_app]
    have : ∀ (a : T) (f t : Int) (b o : T) (i : Int), (a.app (.cons (-1) f t b o .nil)).addP i = a.app (.cons (-1) f (t + 1) b o .nil) := by
      intro a f t b o i
      induction a with
      | nil => simp [T.app, T.addP]
      | cons op' f' t' b' o' r' _ _ ih =>
        cases r' with
        | nil => simp [T.app, T.addP]
        | cons => simp only [T.app, T.addP] at ih ⊢; rw [ih]
    simp only [mvF]
    rw [this]
  · rw [T.addP_new h, T.addP_new (by rw [mvF_last]; exact h), mvF_app]
    rfl
theorem tr_mv (S : Sy) : ∀ (i : Nat) (out : T), S.tr (i + 1) (mvF out) = mvF (S.tr i out) := by
  induction S with
  | nil => intros; rfl
  | op x r ih =>
    intro i out
    simp only [Sy.tr]
    rw [← ih (i + 1), mvF_addP]
    rfl
  | blk x b z r ih1 ih2 =>
    intro i out
    simp only [Sy.tr]
    rw [← ih2 (i + b.len + 2), mvF_app, show i + 1 + b.len + 2 = i + b.len + 2 + 1 by omega]
    simp only [mvF]
    rw [← ih1 (i + 1)]
    rfl
  | ife x b y c z r ih1 ih2 ih3 =>
    intro i out
    simp only [Sy.tr]
    rw [← ih3 (i + b.len + c.len + 3), mvF_app, show i + 1 + b.len + c.len + 3 = i + b.len + c.len + 3 + 1 by omega, show i + 1 + b.len + 2 = i + b.len + 2 + 1 by omega]
    simp only [mvF]
    rw [← ih1 (i + 1), ← ih2 (i + b.len + 2)]
    rfl
/-- The law of wrapping. -/
theorem wraps_law (C : List (Int × Int)) (op : Int) (ho : op = 27 ∨ op = 29) (hl : C.length ≤ 100) (he : (parR C).2.2 = 0) :
    dpF (parR C).1 ≤ 8 ∧ (dpF (parR C).1 = 8 → (parR ((op, 0) :: (C ++ [(31, 0)]))).2.2 = 15) ∧
    (dpF (parR C).1 ≠ 8 → parR ((op, 0) :: (C ++ [(31, 0)])) = (.cons op 0 ((C.length + 2 : Nat) : Int) (mvF (parR C).1) .nil .nil, 0, 0)) := by
  rcases whole_law C with ⟨S, hC, hw, hd, -⟩ | ⟨e, hwe, -⟩
  · have hW := whole_of S hw hd
    have hp : parR C = (S.tr 0 .nil, 0, 0) := by unfold parR; rw [if_pos (by omega), hC, hW]
    have hdp : dpF (S.tr 0 .nil) = S.dep := by rw [dpF_tr S 0 false .nil hw]; simp [dpF]
    rw [hp]
    simp only [hdp]
    have hwb : (Sy.blk (op, 0) S (31, 0) .nil).wf false := ⟨ho, rfl, wf_mono S _ hw, trivial⟩
    have hcb : (op, 0) :: (C ++ [(31, 0)]) = (Sy.blk (op, 0) S (31, 0) .nil).cod := by rw [hC]; simp [Sy.cod]
    have hlb : ((op, (0 : Int)) :: (C ++ [(31, 0)])).length ≤ 1024 := by simp; omega
    refine ⟨hd, fun h8 => ?_, fun h8 => ?_⟩
    · rcases whole_law ((op, 0) :: (C ++ [(31, 0)])) with ⟨S', hC', hw', hd', -⟩ | ⟨e, hwe, -⟩
      · have := (uniq (Sy.blk (op, 0) S (31, 0) .nil) S' _ _ [] [] hwb hw' (Or.inl rfl) (Or.inl rfl) (by rw [← hcb, ← hC'])).1
        rw [← this] at hd'
        simp only [Sy.dep] at hd'
        omega
      · unfold parR
        rw [if_pos hlb, hwe]
    · have hW2 := whole_of (Sy.blk (op, 0) S (31, 0) .nil) hwb (by simp only [Sy.dep]; omega)
      unfold parR
      rw [if_pos hlb, hcb, hW2]
      simp only [Sy.tr, T.app, Nat.zero_add]
      rw [← tr_mv S 0 .nil]
      have : S.len = C.length := by rw [hC, Sy.len_cod]
      rw [this]
      rfl
  · unfold parR at he
    rw [if_pos (by omega), hwe] at he
    simp at he
end Go.Proofs.Ytcnbljohhajkhaa
