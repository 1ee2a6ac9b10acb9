/- Layer 18: the plain law of nesting: code that is nested is read, and only such code. -/
import Derived.Test.YtcnbljohhajkhaaVc
namespace Go.Proofs.Ytcnbljohhajkhaa
set_option linter.unusedVariables false
set_option linter.unusedSimpArgs false

/-- Code that is nested: an instruction, a block, an if with an else; and what follows. -/
inductive Sy where
  | nil : Sy
  | op (x : Int × Int) (r : Sy) : Sy
  | blk (x : Int × Int) (b : Sy) (z : Int × Int) (r : Sy) : Sy
  | ife (x : Int × Int) (b : Sy) (y : Int × Int) (c : Sy) (z : Int × Int) (r : Sy) : Sy
namespace Sy
def cod : Sy → List (Int × Int)
  | nil => []
  | op x r => x :: r.cod
  | blk x b z r => x :: (b.cod ++ z :: r.cod)
  | ife x b y c z r => x :: (b.cod ++ y :: (c.cod ++ z :: r.cod))
def len : Sy → Nat
  | nil => 0
  | op _ r => r.len + 1
  | blk _ b _ r => b.len + r.len + 2
  | ife _ b _ c _ r => b.len + c.len + r.len + 3
theorem len_cod (S : Sy) : S.cod.length = S.len := by
  induction S with
  | nil => rfl
  | op x r ih => simp [cod, len, ih]
  | blk x b z r ih1 ih2 => simp [cod, len, ih1, ih2]; omega
  | ife x b y c z r ih1 ih2 ih3 => simp [cod, len, ih1, ih2, ih3]; omega
def wf (L : Bool) : Sy → Prop
  | nil => True
  | op x r => x.1 ≠ 27 ∧ x.1 ≠ 28 ∧ x.1 ≠ 29 ∧ x.1 ≠ 31 ∧ (x.1 = 30 → L = true) ∧ wf L r
  | blk x b z r => (x.1 = 27 ∨ x.1 = 29) ∧ z.1 = 31 ∧ wf (L || x.1 == 29) b ∧ wf L r
  | ife x b y c z r => x.1 = 27 ∧ y.1 = 28 ∧ z.1 = 31 ∧ wf L b ∧ wf L c ∧ wf L r
def dep : Sy → Nat
  | nil => 0
  | op _ r => dep r
  | blk _ b _ r => max (1 + dep b) (dep r)
  | ife _ b _ c _ r => max (1 + max (dep b) (dep c)) (dep r)
def tr (i : Nat) : Sy → T → T
  | nil, out => out
  | op _ r, out => tr (i + 1) r (out.addP i)
  | blk x b _ r, out => tr (i + b.len + 2) r (out.app (.cons x.1 i ((i + b.len + 2 : Nat) : Int) (tr (i + 1) b .nil) .nil .nil))
  | ife x b _ c _ r, out => tr (i + b.len + c.len + 3) r (out.app (.cons x.1 i ((i + b.len + c.len + 3 : Nat) : Int) (tr (i + 1) b .nil) (tr (i + b.len + 2) c .nil) .nil))
/-- The partners; with h: also those of leaves. -/
def prt (h : Bool) (i : Nat) (lp : Int) : Sy → List Int
  | nil => []
  | op x r => (if x.1 = 30 then lp else -1) :: prt h (i + 1) lp r
  | blk x b _ r => ((i + b.len + 1 : Nat) : Int) :: (prt h (i + 1) (if x.1 = 29 ∧ h = true then ((i + b.len + 1 : Nat) : Int) else lp) b ++ (i : Int) :: prt h (i + b.len + 2) lp r)
  | ife x b _ c _ r => ((i + b.len + 1 : Nat) : Int) :: (prt h (i + 1) lp b ++ ((i + b.len + c.len + 2 : Nat) : Int) :: (prt h (i + b.len + 2) lp c ++ (i : Int) :: prt h (i + b.len + c.len + 3) lp r))
def lvs (i : Nat) : Sy → List Int
  | nil => []
  | op x r => if x.1 = 30 then (i : Int) :: lvs (i + 1) r else lvs (i + 1) r
  | blk x b _ r => (if x.1 = 29 then [] else lvs (i + 1) b) ++ lvs (i + b.len + 2) r
  | ife x b _ c _ r => lvs (i + 1) b ++ (lvs (i + b.len + 2) c ++ lvs (i + b.len + c.len + 3) r)
theorem len_prt (h : Bool) (S : Sy) : ∀ (i : Nat) (lp : Int), (S.prt h i lp).length = S.len := by
  induction S with
  | nil => intros; rfl
  | op x r ih => intros; simp [prt, len, ih]
  | blk x b z r ih1 ih2 => intros; simp [prt, len, ih1, ih2]; omega
  | ife x b y c z r ih1 ih2 ih3 => intros; simp [prt, len, ih1, ih2, ih3]; omega
end Sy

theorem set_at {α : Type} (A : List α) (x y : α) (B : List α) (i : Nat) (h : A.length = i) : (A ++ x :: B).set i y = A ++ y :: B := by
  subst h
  rw [List.set_append_right _ _ (Nat.le_refl _), Nat.sub_self, List.set_cons_zero]
theorem get_at {α : Type} (A : List α) (x : α) (B : List α) (i : Nat) (h : A.length = i) : (A ++ x :: B)[i]? = some x := by
  subst h
  rw [List.getElem?_append_right (Nat.le_refl _), Nat.sub_self]
  rfl
theorem op_at {C : List (Int × Int)} {A B : List (Int × Int)} {x : Int × Int} {i : Nat} (hC : C = A ++ x :: B) (h : A.length = i) : opAt C i = x.1 ∧ i < C.length := by
  have := get_at A x B i h
  refine ⟨?_, by rw [hC]; simp; omega⟩
  unfold opAt
  rw [hC, List.getD, this]
  rfl
theorem rep_split (k m : Nat) : List.replicate (k + m) (-1 : Int) = List.replicate k (-1) ++ List.replicate m (-1) := (List.replicate_append_replicate).symm

/-- The leaves that a list notes go to k. -/
theorem fold_lvs (k : Int) (S : Sy) : ∀ (i : Nat) (lp : Int) (A B : List Int), A.length = i → (S.lvs i).foldl (fun P x => P.set x.toNat k) (A ++ (S.prt true i lp ++ B)) = A ++ (S.prt true i k ++ B) := by
  induction S with
  | nil => intros; rfl
  | op x r ih =>
    intro i lp A B hA
    unfold Sy.lvs Sy.prt
    by_cases h : x.1 = 30
    · rw [if_pos h, if_pos h, if_pos h, List.foldl_cons, Int.toNat_natCast, List.cons_append, set_at A lp k _ i hA]
      have := ih (i + 1) lp (A ++ [k]) B (by simp; omega)
      simpa [List.append_assoc] using this
    · rw [if_neg h, if_neg h, if_neg h]
      have := ih (i + 1) lp (A ++ [-1]) B (by simp; omega)
      simpa [List.append_assoc] using this
  | blk x b z r ih1 ih2 =>
    intro i lp A B hA
    unfold Sy.lvs Sy.prt
    rw [List.foldl_append]
    by_cases h : x.1 = 29
    · rw [if_pos h, if_pos ⟨h, rfl⟩, if_pos ⟨h, rfl⟩]
      have := ih2 (i + b.len + 2) lp (A ++ (((i + b.len + 1 : Nat) : Int) :: (b.prt true (i + 1) ((i + b.len + 1 : Nat) : Int) ++ [(i : Int)]))) B (by simp [Sy.len_prt]; omega)
      simpa [List.append_assoc] using this
    · rw [if_neg h, if_neg (fun h' => h h'.1), if_neg (fun h' => h h'.1)]
      have h1 := ih1 (i + 1) lp (A ++ [((i + b.len + 1 : Nat) : Int)]) ((i : Int) :: r.prt true (i + b.len + 2) lp ++ B) (by simp; omega)
      have h2 := ih2 (i + b.len + 2) lp (A ++ (((i + b.len + 1 : Nat) : Int) :: (b.prt true (i + 1) k ++ [(i : Int)]))) B (by simp [Sy.len_prt]; omega)
      simp only [List.append_assoc, List.cons_append, List.nil_append] at h1 h2 ⊢
      rw [h1, h2]
  | ife x b y c z r ih1 ih2 ih3 =>
    intro i lp A B hA
    unfold Sy.lvs Sy.prt
    rw [List.foldl_append, List.foldl_append]
    have h1 := ih1 (i + 1) lp (A ++ [((i + b.len + 1 : Nat) : Int)]) (((i + b.len + c.len + 2 : Nat) : Int) :: (c.prt true (i + b.len + 2) lp ++ (i : Int) :: r.prt true (i + b.len + c.len + 3) lp) ++ B) (by simp; omega)
    have h2 := ih2 (i + b.len + 2) lp (A ++ (((i + b.len + 1 : Nat) : Int) :: (b.prt true (i + 1) k ++ [((i + b.len + c.len + 2 : Nat) : Int)]))) ((i : Int) :: r.prt true (i + b.len + c.len + 3) lp ++ B) (by simp [Sy.len_prt]; omega)
    have h3 := ih3 (i + b.len + c.len + 3) lp (A ++ (((i + b.len + 1 : Nat) : Int) :: (b.prt true (i + 1) k ++ ((i + b.len + c.len + 2 : Nat) : Int) :: (c.prt true (i + b.len + 2) k ++ [(i : Int)])))) B (by simp [Sy.len_prt]; omega)
    simp only [List.append_assoc, List.cons_append, List.nil_append] at h1 h2 h3 ⊢
    rw [h1, h2, h3]

/-- Where a list of instructions ends. -/
def stops (R : List (Int × Int)) : Prop := R = [] ∨ ∃ x t, R = x :: t ∧ (x.1 = 28 ∨ x.1 = 31)
theorem complete (C : List (Int × Int)) (S : Sy) : ∀ (d : Nat) (L : Bool) (i f : Nat) (out : T) (PA PB lv : List Int) (pre rest : List (Int × Int)), C = pre ++ (S.cod ++ rest) → pre.length = i → stops rest → S.wf L → d + S.dep ≤ 8 → PA.length = i → C.length - i < f →
    lstF C f i d L out (PA ++ (List.replicate S.len (-1) ++ PB)) lv = .ok (S.tr i out, i + S.len, PA ++ (S.prt true i (-1) ++ PB), lv ++ S.lvs i) := by
  induction S with
  | nil =>
    intro d L i f out PA PB lv pre rest hC hp hs hw hd hA hf
    obtain ⟨f, rfl⟩ : ∃ f', f = f' + 1 := ⟨f - 1, by omega⟩
    unfold lstF
    rcases hs with rfl | ⟨x, t, rfl, hx⟩
    · rw [if_pos (by rw [hC]; simp [Sy.cod]; omega)]; simp [Sy.tr, Sy.len, Sy.prt, Sy.lvs]
    · obtain ⟨h1, h2⟩ := op_at (C := C) (x := x) (A := pre) (B := t) (by rw [hC]; rfl) hp
      rw [if_neg (by omega), if_pos (by rw [h1]; exact hx)]; simp [Sy.tr, Sy.len, Sy.prt, Sy.lvs]
  | op x r ih =>
    intro d L i f out PA PB lv pre rest hC hp hs hw hd hA hf
    obtain ⟨f, rfl⟩ : ∃ f', f = f' + 1 := ⟨f - 1, by omega⟩
    obtain ⟨w1, w2, w3, w4, w5, w6⟩ := hw
    obtain ⟨h1, h2⟩ := op_at (C := C) (x := x) (A := pre) (B := r.cod ++ rest) (by rw [hC]; rfl) hp
    unfold lstF
    rw [if_neg (by omega), if_neg (by rw [h1]; omega), if_neg (by rw [h1]; omega), if_neg (fun h => by rw [h1] at h; have := w5 h.1; rw [this] at h; simp at h), h1]
    have := ih d L (i + 1) f (out.addP i) (PA ++ [-1]) PB (if x.1 = 30 then lv ++ [(i : Int)] else lv) (pre ++ [x]) rest (by rw [hC]; simp [Sy.cod]) (by simp; omega) hs w6 hd (by simp; omega) (by omega)
    rw [show PA ++ (List.replicate (Sy.op x r).len (-1) ++ PB) = (PA ++ [-1]) ++ (List.replicate r.len (-1) ++ PB) by rw [show (Sy.op x r).len = 1 + r.len by simp [Sy.len]; omega, rep_split]; simp, this]
    simp only [Sy.tr, Sy.len, Sy.prt, Sy.lvs]
    congr 3
    · omega
    · by_cases h : x.1 = 30
      · simp [h]
      · simp [h]
    
  | blk x b z r ih1 ih2 =>
    intro d L i f out PA PB lv pre rest hC hp hs hw hd hA hf
    obtain ⟨f, rfl⟩ : ∃ f', f = f' + 1 := ⟨f - 1, by omega⟩
    obtain ⟨w1, w2, w3, w4⟩ := hw
    simp only [Sy.dep] at hd
    have e0 : C = pre ++ x :: (b.cod ++ z :: (r.cod ++ rest)) := by rw [hC]; simp [Sy.cod]
    have e1 : C = (pre ++ [x]) ++ (b.cod ++ z :: (r.cod ++ rest)) := by rw [e0]; simp
    have e2 : C = (pre ++ x :: b.cod) ++ z :: (r.cod ++ rest) := by rw [e0]; simp
    have e3 : C = (pre ++ x :: (b.cod ++ [z])) ++ (r.cod ++ rest) := by rw [e0]; simp
    obtain ⟨h1, h2⟩ := op_at e0 hp
    obtain ⟨k1, k2⟩ := op_at e2 (i := i + 1 + b.len) (by simp [Sy.len_cod]; omega)
    have hb := ih1 (d + 1) (L || x.1 == 29) (i + 1) f .nil (PA ++ [-1]) (-1 :: (List.replicate r.len (-1) ++ PB)) (if x.1 = 29 then [] else lv) (pre ++ [x]) (z :: (r.cod ++ rest)) e1 (by simp; omega) (Or.inr ⟨z, _, rfl, Or.inr w2⟩) w3 (by omega) (by simp; omega) (by omega)
    have hr := ih2 d L (i + b.len + 2) f (out.app (.cons x.1 i ((i + b.len + 2 : Nat) : Int) (b.tr (i + 1) .nil) .nil .nil)) (PA ++ (((i + b.len + 1 : Nat) : Int) :: (b.prt true (i + 1) (if x.1 = 29 ∧ true = true then ((i + b.len + 1 : Nat) : Int) else -1) ++ [(i : Int)]))) PB (lv ++ (if x.1 = 29 then [] else b.lvs (i + 1))) (pre ++ x :: (b.cod ++ [z])) rest e3 (by simp [Sy.len_cod]; omega) hs w4 (by omega) (by simp [Sy.len_prt]; omega) (by omega)
    unfold lstF
    rw [if_neg (by omega), if_neg (by rw [h1]; omega), if_pos (by rw [h1]; omega)]
    unfold blkF
    rw [if_neg (by omega), h1]
    rw [show PA ++ (List.replicate (Sy.blk x b z r).len (-1) ++ PB) = (PA ++ [-1]) ++ (List.replicate b.len (-1) ++ -1 :: (List.replicate r.len (-1) ++ PB)) by
      rw [show (Sy.blk x b z r).len = 1 + (b.len + (1 + r.len)) by simp [Sy.len]; omega, rep_split, rep_split, rep_split]; simp, hb]
    simp only
    rw [if_neg (by rw [k1]; omega)]
    unfold finF
    rw [if_pos ⟨k2, by rw [k1]; exact w2⟩]
    simp only
    have s1 : (PA ++ [-1] ++ (b.prt true (i + 1) (-1) ++ -1 :: (List.replicate r.len (-1) ++ PB))).set i ((i + 1 + b.len : Nat) : Int) = PA ++ [((i + b.len + 1 : Nat) : Int)] ++ (b.prt true (i + 1) (-1) ++ -1 :: (List.replicate r.len (-1) ++ PB)) := by
      rw [show PA ++ [-1] ++ (b.prt true (i + 1) (-1) ++ -1 :: (List.replicate r.len (-1) ++ PB)) = PA ++ -1 :: (b.prt true (i + 1) (-1) ++ -1 :: (List.replicate r.len (-1) ++ PB)) by simp, set_at PA _ _ _ i hA]
      rw [show i + 1 + b.len = i + b.len + 1 by omega]; simp
    rw [s1]
    have s2 : (PA ++ [((i + b.len + 1 : Nat) : Int)] ++ (b.prt true (i + 1) (-1) ++ -1 :: (List.replicate r.len (-1) ++ PB))).set (i + 1 + b.len) (i : Int) = (PA ++ [((i + b.len + 1 : Nat) : Int)]) ++ (b.prt true (i + 1) (-1) ++ (i : Int) :: (List.replicate r.len (-1) ++ PB)) := by
      rw [← List.append_assoc, set_at (PA ++ [((i + b.len + 1 : Nat) : Int)] ++ b.prt true (i + 1) (-1)) _ _ _ _ (by simp [Sy.len_prt]; omega), List.append_assoc]
    rw [s2]
    have s3 : List.foldl (fun P x => P.set x.toNat ((i + 1 + b.len : Nat) : Int)) ((PA ++ [((i + b.len + 1 : Nat) : Int)]) ++ (b.prt true (i + 1) (-1) ++ (i : Int) :: (List.replicate r.len (-1) ++ PB))) (if x.1 = 29 then (if x.1 = 29 then [] else lv) ++ b.lvs (i + 1) else []) =
        (PA ++ (((i + b.len + 1 : Nat) : Int) :: (b.prt true (i + 1) (if x.1 = 29 ∧ true = true then ((i + b.len + 1 : Nat) : Int) else -1) ++ [(i : Int)]))) ++ (List.replicate r.len (-1) ++ PB) := by
      by_cases h : x.1 = 29
      · rw [if_pos h, if_pos h, if_pos ⟨h, rfl⟩, List.nil_append, fold_lvs _ b (i + 1) (-1) _ _ (by simp; omega), show i + 1 + b.len = i + b.len + 1 by omega]; simp
      · rw [if_neg h, if_neg (fun h' => h h'.1)]; simp
    rw [s3, show (if x.1 = 29 then lv else (if x.1 = 29 then [] else lv) ++ b.lvs (i + 1)) = lv ++ (if x.1 = 29 then [] else b.lvs (i + 1)) by split <;> simp [*], show i + 1 + b.len + 1 = i + b.len + 2 by omega, show ((i + 1 + b.len : Nat) : Int) + 1 = ((i + b.len + 2 : Nat) : Int) by omega, hr]
    simp only [Sy.tr, Sy.len, Sy.prt, Sy.lvs]
    congr 3
    · omega
    · simp
  | ife x b y c z r ih1 ih2 ih3 =>
    intro d L i f out PA PB lv pre rest hC hp hs hw hd hA hf
    obtain ⟨f, rfl⟩ : ∃ f', f = f' + 1 := ⟨f - 1, by omega⟩
    obtain ⟨w1, w2, w3, w4, w5, w6⟩ := hw
    simp only [Sy.dep] at hd
    have h29 : x.1 ≠ 29 := by omega
    have e0 : C = pre ++ x :: (b.cod ++ y :: (c.cod ++ z :: (r.cod ++ rest))) := by rw [hC]; simp [Sy.cod]
    have e1 : C = (pre ++ [x]) ++ (b.cod ++ y :: (c.cod ++ z :: (r.cod ++ rest))) := by rw [e0]; simp
    have e2 : C = (pre ++ x :: b.cod) ++ y :: (c.cod ++ z :: (r.cod ++ rest)) := by rw [e0]; simp
    have e3 : C = (pre ++ x :: (b.cod ++ [y])) ++ (c.cod ++ z :: (r.cod ++ rest)) := by rw [e0]; simp
    have e4 : C = (pre ++ x :: (b.cod ++ y :: c.cod)) ++ z :: (r.cod ++ rest) := by rw [e0]; simp
    have e5 : C = (pre ++ x :: (b.cod ++ y :: (c.cod ++ [z]))) ++ (r.cod ++ rest) := by rw [e0]; simp
    obtain ⟨h1, h2⟩ := op_at e0 hp
    obtain ⟨k1, k2⟩ := op_at e2 (i := i + 1 + b.len) (by simp [Sy.len_cod]; omega)
    obtain ⟨m1, m2⟩ := op_at e4 (i := i + 1 + b.len + 1 + c.len) (by simp [Sy.len_cod]; omega)
    have hb := ih1 (d + 1) L (i + 1) f .nil (PA ++ [-1]) (-1 :: (List.replicate c.len (-1) ++ -1 :: (List.replicate r.len (-1) ++ PB))) lv (pre ++ [x]) _ e1 (by simp; omega) (Or.inr ⟨y, _, rfl, Or.inl w2⟩) w4 (by omega) (by simp; omega) (by omega)
    have hc := ih2 (d + 1) L (i + 1 + b.len + 1) f .nil (PA ++ (((i + b.len + 1 : Nat) : Int) :: (b.prt true (i + 1) (-1) ++ [-1]))) (-1 :: (List.replicate r.len (-1) ++ PB)) (lv ++ b.lvs (i + 1)) (pre ++ x :: (b.cod ++ [y])) _ e3 (by simp [Sy.len_cod]; omega) (Or.inr ⟨z, _, rfl, Or.inr w3⟩) w5 (by omega) (by simp [Sy.len_prt]; omega) (by omega)
    have hr := ih3 d L (i + b.len + c.len + 3) f (out.app (.cons x.1 i ((i + b.len + c.len + 3 : Nat) : Int) (b.tr (i + 1) .nil) (c.tr (i + b.len + 2) .nil) .nil)) (PA ++ (((i + b.len + 1 : Nat) : Int) :: (b.prt true (i + 1) (-1) ++ ((i + b.len + c.len + 2 : Nat) : Int) :: (c.prt true (i + b.len + 2) (-1) ++ [(i : Int)])))) PB (lv ++ (b.lvs (i + 1) ++ c.lvs (i + b.len + 2))) _ rest e5 (by simp [Sy.len_cod]; omega) hs w6 (by omega) (by simp [Sy.len_prt]; omega) (by omega)
    unfold lstF
    rw [if_neg (by omega), if_neg (by rw [h1]; omega), if_pos (by rw [h1]; omega)]
    unfold blkF
    rw [if_neg (by omega), h1, show (L || x.1 == 29) = L by simp [h29], if_neg h29]
    rw [show PA ++ (List.replicate (Sy.ife x b y c z r).len (-1) ++ PB) = (PA ++ [-1]) ++ (List.replicate b.len (-1) ++ -1 :: (List.replicate c.len (-1) ++ -1 :: (List.replicate r.len (-1) ++ PB))) by
      rw [show (Sy.ife x b y c z r).len = 1 + (b.len + (1 + (c.len + (1 + r.len)))) by simp [Sy.len]; omega, rep_split, rep_split, rep_split, rep_split, rep_split]; simp, hb]
    simp only
    rw [if_pos ⟨w1, k2, by rw [k1]; exact w2⟩]
    have s1 : (PA ++ [-1] ++ (b.prt true (i + 1) (-1) ++ -1 :: (List.replicate c.len (-1) ++ -1 :: (List.replicate r.len (-1) ++ PB)))).set i ((i + 1 + b.len : Nat) : Int) = (PA ++ (((i + b.len + 1 : Nat) : Int) :: (b.prt true (i + 1) (-1) ++ [-1]))) ++ (List.replicate c.len (-1) ++ -1 :: (List.replicate r.len (-1) ++ PB)) := by
      rw [show PA ++ [-1] ++ (b.prt true (i + 1) (-1) ++ -1 :: (List.replicate c.len (-1) ++ -1 :: (List.replicate r.len (-1) ++ PB))) = PA ++ -1 :: (b.prt true (i + 1) (-1) ++ -1 :: (List.replicate c.len (-1) ++ -1 :: (List.replicate r.len (-1) ++ PB))) by simp, set_at PA _ _ _ i hA]
      rw [show i + 1 + b.len = i + b.len + 1 by omega]; simp
    rw [s1, hc]
    simp only
    unfold finF
    rw [if_pos ⟨m2, by rw [m1]; exact w3⟩]
    simp only
    rw [if_neg h29, if_neg h29, List.foldl_nil]
    have s2 : ((PA ++ (((i + b.len + 1 : Nat) : Int) :: (b.prt true (i + 1) (-1) ++ [-1])) ++ (c.prt true (i + 1 + b.len + 1) (-1) ++ -1 :: (List.replicate r.len (-1) ++ PB))).set (i + 1 + b.len) ((i + 1 + b.len + 1 + c.len : Nat) : Int)).set (i + 1 + b.len + 1 + c.len) (i : Int) =
        (PA ++ (((i + b.len + 1 : Nat) : Int) :: (b.prt true (i + 1) (-1) ++ ((i + b.len + c.len + 2 : Nat) : Int) :: (c.prt true (i + b.len + 2) (-1) ++ [(i : Int)])))) ++ (List.replicate r.len (-1) ++ PB) := by
      rw [show PA ++ (((i + b.len + 1 : Nat) : Int) :: (b.prt true (i + 1) (-1) ++ [-1])) ++ (c.prt true (i + 1 + b.len + 1) (-1) ++ -1 :: (List.replicate r.len (-1) ++ PB)) = (PA ++ ((i + b.len + 1 : Nat) : Int) :: b.prt true (i + 1) (-1)) ++ -1 :: (c.prt true (i + 1 + b.len + 1) (-1) ++ -1 :: (List.replicate r.len (-1) ++ PB)) by simp]
      rw [set_at _ _ _ _ _ (by simp [Sy.len_prt]; omega)]
      rw [show ∀ v : Int, (PA ++ ((i + b.len + 1 : Nat) : Int) :: b.prt true (i + 1) (-1)) ++ v :: (c.prt true (i + 1 + b.len + 1) (-1) ++ -1 :: (List.replicate r.len (-1) ++ PB)) = ((PA ++ ((i + b.len + 1 : Nat) : Int) :: b.prt true (i + 1) (-1)) ++ v :: c.prt true (i + 1 + b.len + 1) (-1)) ++ -1 :: (List.replicate r.len (-1) ++ PB) from fun v => by simp]
      rw [set_at _ _ _ _ _ (by simp [Sy.len_prt]; omega), show i + 1 + b.len + 1 = i + b.len + 2 by omega, show i + b.len + 2 + c.len = i + b.len + c.len + 2 by omega]
      simp
    rw [s2, show i + 1 + b.len + 1 + c.len + 1 = i + b.len + c.len + 3 by omega, show ((i + 1 + b.len + 1 + c.len : Nat) : Int) + 1 = ((i + b.len + c.len + 3 : Nat) : Int) by omega, show i + 1 + b.len + 1 = i + b.len + 2 by omega, List.append_assoc lv, hr]
    simp only [Sy.tr, Sy.len, Sy.prt, Sy.lvs]
    congr 3
    · omega
    · simp
theorem sound (C : List (Int × Int)) (f : Nat) : ∀ (i d : Nat) (L : Bool) (out : T) (P lv : List Int) (r : T × Nat × List Int × List Int), i ≤ C.length → d ≤ 8 → lstF C f i d L out P lv = .ok r →
    ∃ (S : Sy) (rest : List (Int × Int)), C.drop i = S.cod ++ rest ∧ stops rest ∧ S.wf L ∧ d + S.dep ≤ 8 ∧ r.2.1 = i + S.len := by
  induction f with
  | zero => intro i d L out P lv r hi hd h; simp [lstF] at h
  | succ f ih =>
    intro i d L out P lv r hi hd h
    unfold lstF at h
    split at h
    next hlt => cases h; exact ⟨.nil, [], by rw [List.drop_of_length_le hlt]; rfl, Or.inl rfl, trivial, by simp [Sy.dep]; omega, by simp [Sy.len]⟩
    next hlt =>
    have hx : C.drop i = C[i] :: C.drop (i + 1) := List.drop_eq_getElem_cons (by omega)
    have ho : opAt C i = (C[i]).1 := by simp [opAt, List.getD, List.getElem?_eq_getElem (show i < C.length by omega)]
    generalize C[i] = x at hx ho
    split at h
    next hs => cases h; exact ⟨.nil, C.drop i, rfl, Or.inr ⟨x, _, hx, by rw [← ho]; exact hs⟩, trivial, by simp [Sy.dep]; omega, by simp [Sy.len]⟩
    next hs =>
    split at h
    next hb =>
      split at h
      · cases h
      next b0 j P' lv' hb0 =>
      have key : ∀ (k : Nat) (S1 : Sy → Sy), j = k + 1 → i < j → j ≤ C.length → (∀ R, (S1 R).cod ++ [] = (S1 R).cod) → (∀ (R : Sy) (rest : List (Int × Int)), C.drop j = R.cod ++ rest → C.drop i = (S1 R).cod ++ rest) → (∀ R : Sy, R.wf L → (S1 R).wf L) → (∀ R : Sy, d + R.dep ≤ 8 → d + (S1 R).dep ≤ 8) → (∀ R : Sy, i + (S1 R).len = j + R.len) →
          ∃ (S : Sy) (rest : List (Int × Int)), C.drop i = S.cod ++ rest ∧ stops rest ∧ S.wf L ∧ d + S.dep ≤ 8 ∧ r.2.1 = i + S.len := by
        intro k S1 _ _ hj _ h1 h2 h3 h4
        obtain ⟨R, rest, a1, a2, a3, a4, a5⟩ := ih _ _ _ _ _ _ _ hj hd h
        exact ⟨S1 R, rest, h1 R rest a1, a2, h2 R a3, h3 R a4, by rw [h4, a5]⟩
      unfold blkF at hb0
      split at hb0
      · cases hb0
      next hd8 =>
      rw [ho] at hb0 hb hs
      split at hb0
      · cases hb0
      next body j1 P1 lv1 h1 =>
      have g1 := lst_ge C f _ _ _ _ _ _ _ (by omega) h1
      obtain ⟨B, rb, b1, b2, b3, b4, b5⟩ := ih _ _ _ _ _ _ _ (by omega) (by omega) h1
      simp only at b5 g1
      have hdj : C.drop j1 = rb := by rw [b5, ← List.drop_drop, b1, ← Sy.len_cod]; simp
      split at hb0
      next hc =>
        obtain ⟨c1, c2, c3⟩ := hc
        split at hb0
        · cases hb0
        next oth k P2 lv2 h2 =>
        have g2 := lst_ge C f _ _ _ _ _ _ _ (by omega) h2
        obtain ⟨Cc, rc, d1, d2, d3, d4, d5⟩ := ih _ _ _ _ _ _ _ (by omega) (by omega) h2
        simp only at d5 g2
        have hy : C.drop j1 = C[j1] :: C.drop (j1 + 1) := List.drop_eq_getElem_cons c2
        have hyo : opAt C j1 = (C[j1]).1 := by simp [opAt, List.getD, List.getElem?_eq_getElem c2]
        generalize C[j1] = y at hy hyo
        have hdk : C.drop k = rc := by rw [d5, ← List.drop_drop, d1, ← Sy.len_cod]; simp
        unfold finF at hb0
        split at hb0
        next hk =>
          obtain ⟨hk1, hk2⟩ := hk
          simp only [Except.ok.injEq, Prod.mk.injEq] at hb0
          obtain ⟨-, rfl, -, -⟩ := hb0
          have hz : C.drop k = C[k] :: C.drop (k + 1) := List.drop_eq_getElem_cons hk1
          have hzo : opAt C k = (C[k]).1 := by simp [opAt, List.getD, List.getElem?_eq_getElem hk1]
          generalize C[k] = z at hz hzo
          refine key k (fun R => .ife x B y Cc z R) rfl (by omega) (by omega) (fun _ => by simp) (fun R rest hR => ?_) (fun R hR => ⟨c1, by rw [← hyo]; exact c3, by rw [← hzo]; exact hk2, by simpa [c1] using b3, d3, hR⟩) (fun R hR => by simp only [Sy.dep]; omega) (fun R => by simp only [Sy.len]; omega)
          rw [hx, b1, ← hdj, hy, d1, ← hdk, hz, hR]
          simp [Sy.cod]
        · cases hb0
      next hc =>
        unfold finF at hb0
        split at hb0
        next hk =>
          obtain ⟨hk1, hk2⟩ := hk
          simp only [Except.ok.injEq, Prod.mk.injEq] at hb0
          obtain ⟨-, rfl, -, -⟩ := hb0
          have hz : C.drop j1 = C[j1] :: C.drop (j1 + 1) := List.drop_eq_getElem_cons hk1
          have hzo : opAt C j1 = (C[j1]).1 := by simp [opAt, List.getD, List.getElem?_eq_getElem hk1]
          generalize C[j1] = z at hz hzo
          refine key j1 (fun R => .blk x B z R) rfl (by omega) (by omega) (fun _ => by simp) (fun R rest hR => ?_) (fun R hR => ⟨hb, by rw [← hzo]; exact hk2, b3, hR⟩) (fun R hR => by simp only [Sy.dep]; omega) (fun R => by simp only [Sy.len]; omega)
          rw [hx, b1, ← hdj, hz, hR]
          simp [Sy.cod]
        · cases hb0
    next hb =>
    split at h
    · cases h
    next h30 =>
      rw [ho] at hb hs h30
      obtain ⟨R, rest, a1, a2, a3, a4, a5⟩ := ih _ _ _ _ _ _ _ (by omega) hd h
      refine ⟨.op x R, rest, by rw [hx, a1]; rfl, a2, ⟨by omega, by omega, by omega, by omega, fun h31 => ?_, a3⟩, a4, by rw [a5]; simp [Sy.len]; omega⟩
      cases L with
      | true => rfl
      | false => exact absurd ⟨h31, rfl⟩ h30
end Go.Proofs.Ytcnbljohhajkhaa
