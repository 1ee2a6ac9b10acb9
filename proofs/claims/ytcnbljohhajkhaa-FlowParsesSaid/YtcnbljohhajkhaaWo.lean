/- Layer 18: the plain law of return: the code of the tree of code. -/
import Derived.Test.YtcnbljohhajkhaaWm
namespace Go.Proofs.Ytcnbljohhajkhaa
set_option linter.unusedVariables false
set_option linter.unusedSimpArgs false

theorem dpF_addP (l : T) (i : Int) : dpF (l.addP i) = dpF l := by
  by_cases h : l.lastOp = some (-1)
  · obtain ⟨l0, f, t, b, o, h1, h2⟩ := T.addP_old h i
    rw [h2, h1, dpF_app, dpF_app]
    simp [dpF]
  · rw [T.addP_new h, dpF_app]
    simp [dpF]
theorem dpF_tr (S : Sy) : ∀ (i : Nat) (L : Bool) (out : T), S.wf L → dpF (S.tr i out) = max (dpF out) S.dep := by
  induction S with
  | nil => intros; simp [Sy.tr, Sy.dep]
  | op x r ih =>
    intro i L out hw
    simp only [Sy.tr, Sy.dep]
    rw [ih _ L _ hw.2.2.2.2.2, dpF_addP]
  | blk x b z r ih1 ih2 =>
    intro i L out hw
    obtain ⟨w1, w2, w3, w4⟩ := hw
    simp only [Sy.tr, Sy.dep]
    rw [ih2 _ L _ w4, dpF_app]
    simp only [dpF]
    rw [if_neg (by omega), ih1 _ _ _ w3]
    simp only [dpF]
    omega
  | ife x b y c z r ih1 ih2 ih3 =>
    intro i L out hw
    obtain ⟨w1, w2, w3, w4, w5, w6⟩ := hw
    simp only [Sy.tr, Sy.dep]
    rw [ih3 _ L _ w6, dpF_app]
    simp only [dpF]
    rw [if_neg (by omega), ih1 _ _ _ w4, ih2 _ _ _ w5]
    simp only [dpF]
    omega
namespace Sy
/-- Without an else that has nothing behind it, and without its argument. -/
def str : Sy → Sy
  | nil => nil
  | op x r => op x r.str
  | blk x b z r => blk x b.str z r.str
  | ife x b y c z r => if c.len = 0 then blk x b.str z r.str else ife x b.str (28, 0) c.str z r.str
theorem str_ife (x : Int × Int) (b : Sy) (y : Int × Int) (c : Sy) (z : Int × Int) (r : Sy) : (ife x b y c z r).str = if c.len = 0 then blk x b.str z r.str else ife x b.str (28, 0) c.str z r.str := rfl
theorem len0 {c : Sy} (h : c.len = 0) : c = nil := by
  cases c <;> simp [len] at h ⊢
theorem wf_str (S : Sy) : ∀ L, S.wf L → S.str.wf L := by
  induction S with
  | nil => intros; trivial
  | op x r ih => intro L h; exact ⟨h.1, h.2.1, h.2.2.1, h.2.2.2.1, h.2.2.2.2.1, ih L h.2.2.2.2.2⟩
  | blk x b z r ih1 ih2 => intro L h; exact ⟨h.1, h.2.1, ih1 _ h.2.2.1, ih2 L h.2.2.2⟩
  | ife x b y c z r ih1 ih2 ih3 =>
    intro L h
    obtain ⟨w1, w2, w3, w4, w5, w6⟩ := h
    unfold str
    split
    · exact ⟨Or.inl w1, w3, by simpa [w1] using ih1 L w4, ih3 L w6⟩
    · exact ⟨w1, rfl, w3, ih1 L w4, ih2 L w5, ih3 L w6⟩
theorem dep_str (S : Sy) : S.str.dep = S.dep := by
  induction S with
  | nil => rfl
  | op x r ih => simp [str, dep, ih]
  | blk x b z r ih1 ih2 => simp [str, dep, ih1, ih2]
  | ife x b y c z r ih1 ih2 ih3 =>
    unfold str
    split
    next h => rw [len0 h]; simp [dep, ih1, ih3]
    next h => simp [dep, ih1, ih2, ih3]
theorem len_str (S : Sy) : S.str.len ≤ S.len := by
  induction S with
  | nil => exact Nat.le_refl _
  | op x r ih => simp [str, len]; omega
  | blk x b z r ih1 ih2 => simp [str, len]; omega
  | ife x b y c z r ih1 ih2 ih3 =>
    unfold str
    split
    next h => simp [len]; omega
    next h => simp [len]; omega
end Sy
/-- Code without arguments of else, and without an else before an end. -/
def plF : List (Int × Int) → List (Int × Int)
  | [] => []
  | x :: t => if x.1 = 28 then (if t.head?.map (fun y => y.1) = some 31 then plF t else (28, 0) :: plF t) else x :: plF t
theorem cod_head {S : Sy} {L : Bool} (hw : S.wf L) (h : S.len ≠ 0) : ∃ x t, S.cod = x :: t ∧ x.1 ≠ 31 := by
  cases S with
  | nil => simp [Sy.len] at h
  | op x r => exact ⟨x, _, rfl, hw.2.2.2.1⟩
  | blk x b z r => exact ⟨x, _, rfl, by rcases hw.1 with h | h <;> omega⟩
  | ife x b y c z r => exact ⟨x, _, rfl, by have := hw.1; omega⟩
theorem plF_cod (S : Sy) : ∀ (L : Bool) (R : List (Int × Int)), S.wf L → plF (S.cod ++ R) = S.str.cod ++ plF R := by
  induction S with
  | nil => intros; rfl
  | op x r ih =>
    intro L R hw
    simp only [Sy.cod, Sy.str, List.cons_append]
    rw [plF, if_neg hw.2.1, ih L R hw.2.2.2.2.2]
  | blk x b z r ih1 ih2 =>
    intro L R hw
    obtain ⟨w1, w2, w3, w4⟩ := hw
    simp only [Sy.cod, Sy.str, List.cons_append, List.append_assoc]
    rw [plF, if_neg (by omega), ih1 _ _ w3, plF, if_neg (by omega), ih2 L R w4]
  | ife x b y c z r ih1 ih2 ih3 =>
    intro L R hw
    obtain ⟨w1, w2, w3, w4, w5, w6⟩ := hw
    simp only [Sy.cod, List.cons_append, List.append_assoc]
    rw [plF, if_neg (by omega), ih1 _ _ w4, plF, if_pos w2]
    rw [Sy.str_ife]
    by_cases h : c.len = 0
    · rw [if_pos h, Sy.len0 h]
      rw [if_pos (by simp [Sy.cod, w3])]
      simp only [Sy.cod, List.nil_append, List.cons_append, List.append_assoc]
      rw [plF, if_neg (by omega), ih3 L R w6]
    · rw [if_neg h]
      obtain ⟨u, t, hu, hu1⟩ := cod_head w5 h
      have hc := ih2 L (z :: (r.cod ++ R)) w5
      rw [hu] at hc ⊢
      simp only [List.cons_append] at hc ⊢
      rw [if_neg (by simp [hu1]), hc, plF, if_neg (by omega), ih3 L R w6]
      simp [Sy.cod]
/-- The code and the rightness of a tree that is being built. -/
structure Bd (C : List (Int × Int)) (d i : Nat) (out : T) (D : List (Int × Int)) : Prop where
  fl : flF C out = D
  ok : okF C d out
  last : out.lastOp = some (-1) → out.lastT = i
theorem okF_split (C : List (Int × Int)) (d : Nat) (a b : T) : okF C d (a.app b) ↔ okF C d a ∧ okF C d b := by
  induction a with
  | nil => simp [T.app, okF]
  | cons op f t b' o r _ _ ih =>
    simp only [T.app, okF, ih]
    exact ⟨fun ⟨h1, h2, h3, h4, h5, h6⟩ => ⟨⟨h1, h2, h3, h4, h5⟩, h6⟩, fun ⟨⟨h1, h2, h3, h4, h5⟩, h6⟩ => ⟨h1, h2, h3, h4, h5, h6⟩⟩
theorem cut_one (C : List (Int × Int)) (f t : Nat) (hf : f ≤ t) (ht : t < C.length) : (C.drop f).take (t + 1 - f) = (C.drop f).take (t - f) ++ [C.getD t (0, 0)] := by
  rw [show t + 1 - f = (t - f) + 1 by omega, List.take_succ_eq_append_getElem (by rw [List.length_drop]; omega)]
  congr 1
  simp [List.getElem_drop, List.getD, ht, show f + (t - f) = t by omega]
theorem Bd.add {C : List (Int × Int)} {d i : Nat} {out : T} {D : List (Int × Int)} (h : Bd C d i out D) (hi : i < C.length) : Bd C d (i + 1) (out.addP i) (D ++ [C.getD i (0, 0)]) := by
  by_cases hl : out.lastOp = some (-1)
  · obtain ⟨l0, f, t, b, o, h1, h2⟩ := T.addP_old hl i
    have ht : t = i := by have := h.last hl; rw [h1, T.lastT_app] at this; exact this
    subst ht
    have hok := h.ok
    have hfl := h.fl
    rw [h1] at hok hfl
    rw [okF_split] at hok
    rw [flF_app] at hfl
    obtain ⟨k0, k1, k2, k3, k4, k5⟩ := hok
    obtain ⟨fn, rfl⟩ : ∃ fn : Nat, f = (fn : Int) := ⟨f.toNat, by omega⟩
    have hb : b = .nil ∧ o = .nil := by
      rcases k3.2 with ⟨-, hb, ho⟩ | ⟨hb, -⟩
      · exact ⟨by cases b with | nil => rfl | cons => simp [T.len] at hb, by cases o with | nil => rfl | cons => simp [T.len] at ho⟩
      · omega
    obtain ⟨rfl, rfl⟩ := hb
    have hft := k3.1
    simp only [Int.toNat_natCast] at hft
    refine ⟨?_, ?_, fun _ => by rw [h2, T.lastT_app]; omega⟩
    · rw [h2, flF_app, ← hfl]
      simp only [flF, if_true, Int.toNat_natCast, List.append_nil, List.append_assoc]
      rw [show ((i : Int) + 1).toNat = i + 1 by omega, cut_one C fn i (by omega) hi]
    · rw [h2, okF_split]
      refine ⟨k0, k1, by omega, ⟨⟨by omega, by omega⟩, Or.inl ⟨rfl, rfl, rfl⟩⟩, fun h => absurd rfl h, trivial⟩
  · have h2 := T.addP_new hl i
    refine ⟨?_, ?_, fun _ => by rw [h2, T.lastT_app]; omega⟩
    · rw [h2, flF_app, h.fl]
      simp only [flF, if_true, Int.toNat_natCast, List.append_nil]
      have := cut_one C i i (Nat.le_refl _) hi
      rw [show ((i : Int) + 1).toNat = i + 1 by omega, this]
      simp
    · rw [h2, okF_split]
      exact ⟨h.ok, by omega, by omega, ⟨⟨by omega, by omega⟩, Or.inl ⟨rfl, rfl, rfl⟩⟩, fun h => absurd rfl h, trivial⟩
theorem getD_op {C : List (Int × Int)} {A B : List (Int × Int)} {x : Int × Int} {i : Nat} (hC : C = A ++ x :: B) (h : A.length = i) : C.getD i (0, 0) = x := by
  rw [hC, List.getD, get_at A x B i h]
  rfl
theorem len_tr (S : Sy) : ∀ (i : Nat) (out : T), S.len ≠ 0 → (S.tr i out).len ≠ 0 := by
  have hadd : ∀ (l : T) (i : Int), (l.addP i).len ≠ 0 := fun l i => by
    by_cases h : l.lastOp = some (-1)
    · obtain ⟨l0, f, t, b, o, -, h2⟩ := T.addP_old h i
      rw [h2, T.len_app]; simp [T.len]
    · rw [T.addP_new h, T.len_app]; simp [T.len]
  have main : ∀ (S : Sy) (i : Nat) (out : T), out.len ≠ 0 → (S.tr i out).len ≠ 0 := by
    intro S
    induction S with
    | nil => intro i out h; exact h
    | op x r ih => intro i out h; exact ih _ _ (hadd _ _)
    | blk x b z r ih1 ih2 => intro i out h; exact ih2 _ _ (by rw [T.len_app]; omega)
    | ife x b y c z r ih1 ih2 ih3 => intro i out h; exact ih3 _ _ (by rw [T.len_app]; omega)
  intro i out h
  cases S with
  | nil => simp [Sy.len] at h
  | op x r => exact main r _ _ (hadd _ _)
  | blk x b z r => exact main r _ _ (by rw [T.len_app]; simp [T.len])
  | ife x b y c z r => exact main r _ _ (by rw [T.len_app]; simp [T.len])
theorem bd_tr (C : List (Int × Int)) (S : Sy) : ∀ (d : Nat) (L : Bool) (i : Nat) (out : T) (D : List (Int × Int)) (pre rest : List (Int × Int)), C = pre ++ (S.cod ++ rest) → pre.length = i → S.wf L → d + S.dep ≤ 8 → Bd C d i out D → Bd C d (i + S.len) (S.tr i out) (D ++ S.str.cod) := by
  induction S with
  | nil => intro d L i out D pre rest hC hp hw hd hB; simpa [Sy.len, Sy.tr, Sy.str, Sy.cod] using hB
  | op x r ih =>
    intro d L i out D pre rest hC hp hw hd hB
    have e0 : C = pre ++ x :: (r.cod ++ rest) := by rw [hC]; rfl
    have h2 := (op_at e0 hp).2
    have h := ih d L (i + 1) (out.addP i) (D ++ [C.getD i (0, 0)]) (pre ++ [x]) rest (by rw [e0]; simp) (by simp; omega) hw.2.2.2.2.2 hd (hB.add h2)
    rw [getD_op e0 hp] at h
    simp only [Sy.len, Sy.tr, Sy.str, Sy.cod]
    rw [show i + (r.len + 1) = i + 1 + r.len by omega]
    simpa using h
  | blk x b z r ih1 ih2 =>
    intro d L i out D pre rest hC hp hw hd hB
    obtain ⟨w1, w2, w3, w4⟩ := hw
    simp only [Sy.dep] at hd
    have e0 : C = pre ++ x :: (b.cod ++ z :: (r.cod ++ rest)) := by rw [hC]; simp [Sy.cod]
    have e2 : C = (pre ++ x :: b.cod) ++ z :: (r.cod ++ rest) := by rw [e0]; simp
    obtain ⟨h1, h2⟩ := op_at e0 hp
    obtain ⟨k1, k2⟩ := op_at e2 (i := i + b.len + 1) (by simp [Sy.len_cod]; omega)
    have hb := ih1 (d + 1) _ (i + 1) .nil [] (pre ++ [x]) (z :: (r.cod ++ rest)) (by rw [e0]; simp) (by simp; omega) w3 (by omega) ⟨rfl, trivial, fun h => by simp [T.lastOp] at h⟩
    have g1 := getD_op e0 hp
    have g2 := getD_op e2 (i := i + b.len + 1) (by simp [Sy.len_cod]; omega)
    have hB2 : Bd C d (i + b.len + 2) (out.app (.cons x.1 i ((i + b.len + 2 : Nat) : Int) (b.tr (i + 1) .nil) .nil .nil)) (D ++ (x :: (b.str.cod ++ [z]))) := by
      refine ⟨?_, ?_, fun h => ?_⟩
      · rw [flF_app, hB.fl]
        simp only [flF, T.len, if_true, List.append_nil, Int.toNat_natCast]
        rw [if_neg (by omega), hb.fl, g1, show i + b.len + 2 - 1 = i + b.len + 1 by omega, g2]
        simp
      · rw [okF_split]
        refine ⟨hB.ok, by omega, by omega, ⟨⟨by omega, by omega⟩, Or.inr ⟨by rcases w1 with h | h; exact Or.inl h; exact Or.inr ⟨h, rfl⟩, by omega, by rw [Int.toNat_natCast, h1], by rw [Int.toNat_natCast, show i + b.len + 2 - 1 = i + b.len + 1 by omega, k1, w2]⟩⟩, fun _ => ⟨hb.ok, trivial⟩, trivial⟩
      · rw [T.last_app] at h
        simp only [Option.some.injEq] at h
        omega
    have h := ih2 d L (i + b.len + 2) _ _ (pre ++ x :: (b.cod ++ [z])) rest (by rw [e0]; simp) (by simp [Sy.len_cod]; omega) w4 (by omega) hB2
    simp only [Sy.len, Sy.tr, Sy.str, Sy.cod]
    rw [show i + (b.len + r.len + 2) = i + b.len + 2 + r.len by omega]
    simpa using h
  | ife x b y c z r ih1 ih2 ih3 =>
    intro d L i out D pre rest hC hp hw hd hB
    obtain ⟨w1, w2, w3, w4, w5, w6⟩ := hw
    simp only [Sy.dep] at hd
    have e0 : C = pre ++ x :: (b.cod ++ y :: (c.cod ++ z :: (r.cod ++ rest))) := by rw [hC]; simp [Sy.cod]
    have e4 : C = (pre ++ x :: (b.cod ++ y :: c.cod)) ++ z :: (r.cod ++ rest) := by rw [e0]; simp
    obtain ⟨h1, h2⟩ := op_at e0 hp
    obtain ⟨k1, k2⟩ := op_at e4 (i := i + b.len + c.len + 2) (by simp [Sy.len_cod]; omega)
    have hb := ih1 (d + 1) _ (i + 1) .nil [] (pre ++ [x]) (y :: (c.cod ++ z :: (r.cod ++ rest))) (by rw [e0]; simp) (by simp; omega) w4 (by omega) ⟨rfl, trivial, fun h => by simp [T.lastOp] at h⟩
    have hc := ih2 (d + 1) _ (i + b.len + 2) .nil [] (pre ++ x :: (b.cod ++ [y])) (z :: (r.cod ++ rest)) (by rw [e0]; simp) (by simp [Sy.len_cod]; omega) w5 (by omega) ⟨rfl, trivial, fun h => by simp [T.lastOp] at h⟩
    have g1 := getD_op e0 hp
    have g2 := getD_op e4 (i := i + b.len + c.len + 2) (by simp [Sy.len_cod]; omega)
    have hcl : (c.tr (i + b.len + 2) .nil).len = 0 ↔ c.len = 0 := by
      constructor
      · intro h
        apply Classical.byContradiction
        intro h'
        exact len_tr c _ _ h' h
      · intro h
        rw [Sy.len0 h]; rfl
    have hB2 : Bd C d (i + b.len + c.len + 3) (out.app (.cons x.1 i ((i + b.len + c.len + 3 : Nat) : Int) (b.tr (i + 1) .nil) (c.tr (i + b.len + 2) .nil) .nil)) (D ++ (x :: (b.str.cod ++ (if c.len = 0 then [] else (28, 0) :: c.str.cod) ++ [z]))) := by
      refine ⟨?_, ?_, fun h => ?_⟩
      · rw [flF_app, hB.fl]
        simp only [flF, List.append_nil, Int.toNat_natCast]
        rw [if_neg (by omega), hb.fl, hc.fl, g1, show i + b.len + c.len + 3 - 1 = i + b.len + c.len + 2 by omega, g2]
        by_cases h : c.len = 0
        · rw [if_pos (hcl.2 h), if_pos h]; simp
        · rw [if_neg (fun h' => h (hcl.1 h')), if_neg h]; simp
      · rw [okF_split]
        refine ⟨hB.ok, by omega, by omega, ⟨⟨by omega, by omega⟩, Or.inr ⟨Or.inl w1, by omega, by rw [Int.toNat_natCast, h1], by rw [Int.toNat_natCast, show i + b.len + c.len + 3 - 1 = i + b.len + c.len + 2 by omega, k1, w3]⟩⟩, fun _ => ⟨hb.ok, hc.ok⟩, trivial⟩
      · rw [T.last_app] at h
        simp only [Option.some.injEq] at h
        omega
    have h := ih3 d L (i + b.len + c.len + 3) _ _ (pre ++ x :: (b.cod ++ y :: (c.cod ++ [z]))) rest (by rw [e0]; simp) (by simp [Sy.len_cod]; omega) w6 (by omega) hB2
    simp only [Sy.len, Sy.tr]
    rw [show i + (b.len + c.len + r.len + 3) = i + b.len + c.len + 3 + r.len by omega]
    have e : D ++ (Sy.ife x b y c z r).str.cod = (D ++ (x :: (b.str.cod ++ (if c.len = 0 then [] else (28, 0) :: c.str.cod) ++ [z]))) ++ r.str.cod := by
      rw [Sy.str_ife]
      by_cases h : c.len = 0
      · rw [if_pos h, if_pos h]; simp [Sy.cod]
      · rw [if_neg h, if_neg h]; simp [Sy.cod]
    rw [e]
    exact h

/-- The law of return. -/
theorem returns_law (C : List (Int × Int)) (he : (parR C).2.2 = 0) : C.length ≤ 1024 ∧ okF C 0 (parR C).1 ∧ (flF C (parR C).1).length ≤ 1024 ∧ (parR (flF C (parR C).1)).2.2 = 0 ∧ flF C (parR C).1 = plF C ∧ dpF (parR (flF C (parR C).1)).1 = dpF (parR C).1 ∧ dpF (parR C).1 ≤ 8 := by
  have hl := parR_len C he
  rcases whole_law C with ⟨S, hC, hw, hd, -⟩ | ⟨e, hwe, -⟩
  · have hW := whole_of S hw hd
    have hp : parR C = (S.tr 0 .nil, 0, 0) := by unfold parR; rw [if_pos hl, hC, hW]
    have hB := bd_tr C S 0 false 0 .nil [] [] [] (by simpa using hC) rfl hw (by omega) ⟨rfl, trivial, fun h => by simp [T.lastOp] at h⟩
    have hW2 := whole_of S.str (Sy.wf_str S _ hw) (by rw [Sy.dep_str]; exact hd)
    have hfl : flF C (S.tr 0 .nil) = S.str.cod := by simpa using hB.fl
    have hls : S.str.cod.length ≤ 1024 := by rw [Sy.len_cod]; have := Sy.len_str S; rw [hC, Sy.len_cod] at hl; omega
    have hp2 : parR S.str.cod = (S.str.tr 0 .nil, 0, 0) := by unfold parR; rw [if_pos hls, hW2]
    rw [hp]
    refine ⟨hl, hB.ok, by rw [hfl]; exact hls, by rw [hfl, hp2], ?_, ?_, ?_⟩
    · rw [hfl]
      have := plF_cod S false [] hw
      rw [List.append_nil, ← hC] at this
      rw [this]; simp [plF]
    · rw [hfl, hp2]
      simp only
      rw [dpF_tr S.str 0 false .nil (Sy.wf_str S _ hw), dpF_tr S 0 false .nil hw, Sy.dep_str]
    · simp only
      rw [dpF_tr S 0 false .nil hw]
      simp only [dpF]
      omega
  · unfold parR at he
    rw [if_pos hl, hwe] at he
    simp at he
end Go.Proofs.Ytcnbljohhajkhaa
