/- Layer 18, the reference: the plain law of tree. -/
import Derived.Test.YtcnbljohhajkhaaXe
import Derived.Test.YtcnbljohhajkhaaWma
namespace Go.Proofs.Ytcnbljohhajkhaa
set_option linter.unusedVariables false
set_option linter.unusedSimpArgs false

/-- Nested code lies at k, its partners beside it. -/
def AtS (C : List (Int × Int)) (P : List Int) : Nat → Sy → Prop
  | _, .nil => True
  | k, .op x r => k < C.length ∧ opAt C k ≠ 27 ∧ opAt C k ≠ 29 ∧ AtS C P (k + 1) r
  | k, .blk x b z r => k + b.len + 1 < C.length ∧ opAt C k = x.1 ∧ (x.1 = 27 ∨ x.1 = 29) ∧ P.getD k 0 = ((k + b.len + 1 : Nat) : Int) ∧ opAt C (k + b.len + 1) ≠ 28 ∧ AtS C P (k + 1) b ∧ AtS C P (k + b.len + 2) r
  | k, .ife x b y c z r => k + b.len + c.len + 2 < C.length ∧ opAt C k = x.1 ∧ x.1 = 27 ∧ P.getD k 0 = ((k + b.len + 1 : Nat) : Int) ∧ opAt C (k + b.len + 1) = 28 ∧ P.getD (k + b.len + 1) 0 = ((k + b.len + c.len + 2 : Nat) : Int) ∧
      AtS C P (k + 1) b ∧ AtS C P (k + b.len + 2) c ∧ AtS C P (k + b.len + c.len + 3) r
theorem at_sy (S : Sy) : ∀ (L : Bool) (C : List (Int × Int)) (P : List Int) (pre rest : List (Int × Int)) (A B : List Int) (i : Nat) (lp : Int), C = pre ++ (S.cod ++ rest) → pre.length = i → S.wf L → P = A ++ (S.prt true i lp ++ B) → A.length = i → AtS C P i S := by
  induction S with
  | nil => intros; trivial
  | op x r ih =>
    intro L C P pre rest A B i lp hC hp hw hP hA
    obtain ⟨w1, w2, w3, w4, w5, w6⟩ := hw
    obtain ⟨h1, h2⟩ := op_at (C := C) (x := x) (A := pre) (B := r.cod ++ rest) (by rw [hC]; rfl) hp
    refine ⟨h2, by omega, by omega, ih L C P (pre ++ [x]) rest (A ++ [if x.1 = 30 then lp else -1]) B (i + 1) lp (by rw [hC]; simp [Sy.cod]) (by simp; omega) w6 (by rw [hP]; simp [Sy.prt]) (by simp; omega)⟩
  | blk x b z r ih1 ih2 =>
    intro L C P pre rest A B i lp hC hp hw hP hA
    obtain ⟨w1, w2, w3, w4⟩ := hw
    have e0 : C = pre ++ x :: (b.cod ++ z :: (r.cod ++ rest)) := by rw [hC]; simp [Sy.cod]
    have e1 : C = (pre ++ [x]) ++ (b.cod ++ z :: (r.cod ++ rest)) := by rw [e0]; simp
    have e2 : C = (pre ++ x :: b.cod) ++ z :: (r.cod ++ rest) := by rw [e0]; simp
    have e3 : C = (pre ++ x :: (b.cod ++ [z])) ++ (r.cod ++ rest) := by rw [e0]; simp
    obtain ⟨h1, h2⟩ := op_at e0 hp
    obtain ⟨k1, k2⟩ := op_at e2 (i := i + b.len + 1) (by simp [Sy.len_cod]; omega)
    obtain ⟨lb, hlb⟩ : ∃ lb, (if x.1 = 29 ∧ True then ((i + b.len + 1 : Nat) : Int) else lp) = lb := ⟨_, rfl⟩
    simp only [Sy.prt] at hP
    refine ⟨k2, h1, w1, ?_, by omega, ih1 _ C P (pre ++ [x]) _ (A ++ [((i + b.len + 1 : Nat) : Int)]) ((i : Int) :: r.prt true (i + b.len + 2) lp ++ B) (i + 1) (if x.1 = 29 ∧ True then ((i + b.len + 1 : Nat) : Int) else lp) e1 (by simp; omega) w3 (by rw [hP]; simp) (by simp; omega),
      ih2 _ C P _ rest (A ++ (((i + b.len + 1 : Nat) : Int) :: (b.prt true (i + 1) (if x.1 = 29 ∧ True then ((i + b.len + 1 : Nat) : Int) else lp) ++ [(i : Int)]))) B (i + b.len + 2) lp e3 (by simp [Sy.len_cod]; omega) w4 (by rw [hP]; simp) (by simp [Sy.len_prt]; omega)⟩
    rw [hP, List.cons_append]
    exact getD_mid hA
  | ife x b y c z r ih1 ih2 ih3 =>
    intro L C P pre rest A B i lp hC hp hw hP hA
    obtain ⟨w1, w2, w3, w4, w5, w6⟩ := hw
    have e0 : C = pre ++ x :: (b.cod ++ y :: (c.cod ++ z :: (r.cod ++ rest))) := by rw [hC]; simp [Sy.cod]
    have e1 : C = (pre ++ [x]) ++ (b.cod ++ y :: (c.cod ++ z :: (r.cod ++ rest))) := by rw [e0]; simp
    have e2 : C = (pre ++ x :: b.cod) ++ y :: (c.cod ++ z :: (r.cod ++ rest)) := by rw [e0]; simp
    have e3 : C = (pre ++ x :: (b.cod ++ [y])) ++ (c.cod ++ z :: (r.cod ++ rest)) := by rw [e0]; simp
    have e4 : C = (pre ++ x :: (b.cod ++ y :: c.cod)) ++ z :: (r.cod ++ rest) := by rw [e0]; simp
    have e5 : C = (pre ++ x :: (b.cod ++ y :: (c.cod ++ [z]))) ++ (r.cod ++ rest) := by rw [e0]; simp
    obtain ⟨h1, h2⟩ := op_at e0 hp
    obtain ⟨k1, k2⟩ := op_at e2 (i := i + b.len + 1) (by simp [Sy.len_cod]; omega)
    obtain ⟨m1, m2⟩ := op_at e4 (i := i + b.len + c.len + 2) (by simp [Sy.len_cod]; omega)
    simp only [Sy.prt] at hP
    refine ⟨m2, h1, w1, ?_, by omega, ?_, ih1 _ C P (pre ++ [x]) _ (A ++ [((i + b.len + 1 : Nat) : Int)]) (((i + b.len + c.len + 2 : Nat) : Int) :: (c.prt true (i + b.len + 2) lp ++ (i : Int) :: r.prt true (i + b.len + c.len + 3) lp) ++ B) (i + 1) lp e1 (by simp; omega) w4 (by rw [hP]; simp) (by simp; omega),
      ih2 _ C P _ _ (A ++ (((i + b.len + 1 : Nat) : Int) :: (b.prt true (i + 1) lp ++ [((i + b.len + c.len + 2 : Nat) : Int)]))) ((i : Int) :: r.prt true (i + b.len + c.len + 3) lp ++ B) (i + b.len + 2) lp e3 (by simp [Sy.len_cod]; omega) w5 (by rw [hP]; simp) (by simp [Sy.len_prt]; omega),
      ih3 _ C P _ rest (A ++ (((i + b.len + 1 : Nat) : Int) :: (b.prt true (i + 1) lp ++ ((i + b.len + c.len + 2 : Nat) : Int) :: (c.prt true (i + b.len + 2) lp ++ [(i : Int)])))) B (i + b.len + c.len + 3) lp e5 (by simp [Sy.len_cod]; omega) w6 (by rw [hP]; simp) (by simp [Sy.len_prt]; omega)⟩
    · rw [hP, List.cons_append]
      exact getD_mid hA
    · rw [hP, show A ++ (((i + b.len + 1 : Nat) : Int) :: (b.prt true (i + 1) lp ++ ((i + b.len + c.len + 2 : Nat) : Int) :: (c.prt true (i + b.len + 2) lp ++ (i : Int) :: r.prt true (i + b.len + c.len + 3) lp)) ++ B) = (A ++ ((i + b.len + 1 : Nat) : Int) :: b.prt true (i + 1) lp) ++ ((i + b.len + c.len + 2 : Nat) : Int) :: ((c.prt true (i + b.len + 2) lp ++ (i : Int) :: r.prt true (i + b.len + c.len + 3) lp) ++ B) by simp]
      exact getD_mid (by simp [Sy.len_prt]; omega)
namespace Sy
def ops : Sy → Nat
  | op _ r => r.ops + 1
  | _ => 0
def aft : Sy → Sy
  | op _ r => r.aft
  | s => s
theorem ops_aft (S : Sy) : S.len = S.ops + S.aft.len := by
  induction S with
  | op x r ih => simp only [len, ops, aft, ih]; omega
  | _ => simp [ops, aft]
theorem aft_ops (S : Sy) : S.aft.ops = 0 := by
  induction S with
  | op x r ih => simp only [aft, ih]
  | _ => rfl
theorem tr_ops (S : Sy) : ∀ (k j : Nat) (l : T), S.tr (k + j) (l.app (.cons (-1) k ((k + j : Nat) : Int) .nil .nil .nil)) = S.aft.tr (k + j + S.ops) (l.app (.cons (-1) k ((k + j + S.ops : Nat) : Int) .nil .nil .nil)) := by
  induction S with
  | op x r ih =>
    intro k j l
    have := ih k (j + 1) l
    simp only [tr, aft, ops]
    rw [show k + j + (r.ops + 1) = k + (j + 1) + r.ops by omega, ← this]
    have hl : (l.app (.cons (-1) k ((k + j : Nat) : Int) .nil .nil .nil)).addP ((k + j : Nat) : Int) = l.app (.cons (-1) k ((k + (j + 1) : Nat) : Int) .nil .nil .nil) := by
      clear this ih
      induction l with
      | nil => simp [T.app, T.addP]; omega
      | cons op f t b o r0 _ _ ih0 =>
        have : ∃ a1 a2 a3 a4 a5 a6, r0.app (.cons (-1) (k : Int) ((k + j : Nat) : Int) .nil .nil .nil) = .cons a1 a2 a3 a4 a5 a6 := by
          cases r0 with
          | nil => exact ⟨_, _, _, _, _, _, rfl⟩
          | cons => exact ⟨_, _, _, _, _, _, rfl⟩
        obtain ⟨a1, a2, a3, a4, a5, a6, e⟩ := this
        simp only [T.app]
        rw [e] at ih0 ⊢
        rw [T.addP, ih0]
    rw [hl]
    rfl
  | _ => intros; rfl
theorem tr_first (S : Sy) (k : Nat) (out : T) (h : 0 < S.ops) (hl : out.lastOp ≠ some (-1)) : S.tr k out = S.aft.tr (k + S.ops) (out.app (.cons (-1) k ((k + S.ops : Nat) : Int) .nil .nil .nil)) := by
  cases S with
  | op x r =>
    have := tr_ops r k 1 out
    simp only [tr, aft, ops]
    rw [T.addP_new hl]
    rw [show k + (r.ops + 1) = k + 1 + r.ops by omega, ← this]
    rfl
  | _ => simp [ops] at h
end Sy
theorem at_ops {C : List (Int × Int)} {P : List Int} (S : Sy) : ∀ (k : Nat), AtS C P k S → (∀ j, j < S.ops → k + j < C.length ∧ opAt C (k + j) ≠ 27 ∧ opAt C (k + j) ≠ 29) ∧ AtS C P (k + S.ops) S.aft := by
  induction S with
  | op x r ih =>
    intro k ⟨h1, h2, h3, h4⟩
    obtain ⟨g1, g2⟩ := ih (k + 1) h4
    refine ⟨fun j hj => ?_, by simp only [Sy.ops, Sy.aft]; rw [show k + (r.ops + 1) = k + 1 + r.ops by omega]; exact g2⟩
    cases j with
    | zero => exact ⟨h1, h2, h3⟩
    | succ j => have := g1 j (by simp only [Sy.ops] at hj; omega); rw [show k + (j + 1) = k + 1 + j by omega]; exact this
  | nil => intro k h; exact ⟨fun j hj => absurd hj (by simp [Sy.ops]), h⟩
  | blk x b z r ih1 ih2 => intro k h; exact ⟨fun j hj => absurd hj (by simp [Sy.ops]), h⟩
  | ife x b y c z r ih1 ih2 ih3 => intro k h; exact ⟨fun j hj => absurd hj (by simp [Sy.ops]), h⟩
/-- What stands behind the instructions of a chunk: nothing, or a block. -/
theorem at_stop {C : List (Int × Int)} {P : List Int} {S : Sy} {k : Nat} (h : AtS C P k S) (h0 : S.ops = 0) : S.len = 0 ∨ (k < C.length ∧ 0 < S.len ∧ (opAt C k = 27 ∨ opAt C k = 29)) := by
  cases S with
  | nil => exact Or.inl rfl
  | op x r => simp [Sy.ops] at h0
  | blk x b z r => obtain ⟨h1, h2, h3, -⟩ := h; exact Or.inr ⟨by omega, by simp [Sy.len], by rw [h2]; exact h3⟩
  | ife x b y c z r => obtain ⟨h1, h2, h3, -⟩ := h; exact Or.inr ⟨by omega, by simp [Sy.len], by rw [h2]; exact Or.inl h3⟩
theorem at_len {C : List (Int × Int)} {P : List Int} (S : Sy) : ∀ {k : Nat}, AtS C P k S → k ≤ C.length → k + S.len ≤ C.length := by
  induction S with
  | nil => intro k h hk; simpa [Sy.len] using hk
  | op x r ih => intro k ⟨h1, h2, h3, h4⟩ hk; have := ih h4 (by omega); simp only [Sy.len]; omega
  | blk x b z r ih1 ih2 => intro k ⟨h1, _, _, _, _, h5, h6⟩ hk; have := ih2 h6 (by omega); simp only [Sy.len]; omega
  | ife x b y c z r ih1 ih2 ih3 => intro k ⟨h1, _, _, _, _, _, h5, h6, h7⟩ hk; have := ih3 h7 (by omega); simp only [Sy.len]; omega
theorem last_app (l : T) (op f t : Int) (b o : T) : (l.app (.cons op f t b o .nil)).lastOp = some op := by
  induction l with
  | nil => rfl
  | cons a1 a2 a3 a4 a5 r _ _ ih =>
    simp only [T.app]
    cases r with
    | nil => rfl
    | cons => exact ih
theorem tr_len (S : Sy) : ∀ (k : Nat) (out : T), (S.tr k out).len ≤ out.len + S.len := by
  intro k out
  have := nodes_tr S k out
  induction S generalizing k out with
  | nil => simp [Sy.tr]
  | op x r ih =>
    have h1 := ih (k + 1) (out.addP k) (nodes_tr r _ _)
    have h2 : (out.addP k).len ≤ out.len + 1 := by
      by_cases h : out.lastOp = some (-1)
      · obtain ⟨l0, f, t, b, o, e1, e2⟩ := T.addP_old h k
        rw [e2, e1, T.len_app, T.len_app]; simp [T.len]
      · rw [T.addP_new h, T.len_app]; simp [T.len]
    simp only [Sy.tr, Sy.len]; omega
  | blk x b z r ih1 ih2 =>
    have h1 := ih2 (k + b.len + 2) (out.app (.cons x.1 k ((k + b.len + 2 : Nat) : Int) (b.tr (k + 1) .nil) .nil .nil)) (nodes_tr r _ _)
    rw [T.len_app] at h1
    simp only [T.len] at h1
    simp only [Sy.tr, Sy.len]; omega
  | ife x b y c z r ih1 ih2 ih3 =>
    have h1 := ih3 (k + b.len + c.len + 3) (out.app (.cons x.1 k ((k + b.len + c.len + 3 : Nat) : Int) (b.tr (k + 1) .nil) (c.tr (k + b.len + 2) .nil) .nil)) (nodes_tr r _ _)
    rw [T.len_app] at h1
    simp only [T.len] at h1
    simp only [Sy.tr, Sy.len]; omega
end Go.Proofs.Ytcnbljohhajkhaa
