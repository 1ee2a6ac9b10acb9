/- Layer 33: links: plain. -/
import Derived.Test.YtfebgcbkadmgiaaSfm
namespace Go.Proofs.Ytfebgcbkadmgiaa
open Go.RowKit Go.Shelf
set_option linter.unusedVariables false
set_option linter.unusedSimpArgs false

theorem blk_own {β : Type} (b : Nat) (t : TypeId) (f : β → List Value) : Own (fun s W => Blk W b t (f s)) := fun s X Y row hs hg hrow =>
  hs.grown hg (fun e' => by obtain ⟨o, ho, hc⟩ := hrow b e'; rw [show X.heap[b]? = _ from hs] at ho; cases ho; cases hc)
/-- One row's link. -/
def lkS {n : Nat} (D : List Int) (pr : Nat) (s : List Int × List Int) (i : Fin n) : List Int × List Int :=
  (s.1.set (rowI pr i.val) (s.2.getD (D.getD i.val 0).toNat 0), s.2.set (D.getD i.val 0).toNat (s.2.getD (D.getD i.val 0).toNat 0 + 1))
/-- The list of links and the next rows, behind some rows. -/
def lkF {n : Nat} (D : List Int) (pr : Nat) (pre : List (Fin n)) : List Int × List Int := pre.foldl (lkS D pr) (List.replicate (n + 1) 0, stL D)
theorem lkF_snoc {n : Nat} (D : List Int) (pr : Nat) (pre : List (Fin n)) (i : Fin n) : lkF D pr (pre ++ [i]) = lkS D pr (lkF D pr pre) i := by
  unfold lkF; rw [List.foldl_append]; rfl
theorem snocInd {α : Type} {P : List α → Prop} (h0 : P []) (h1 : ∀ l a, P l → P (l ++ [a])) (l : List α) : P l := by
  have key : ∀ m : List α, P m.reverse := by
    intro m
    induction m with
    | nil => exact h0
    | cons a m ih => rw [List.reverse_cons]; exact h1 _ _ ih
  have := key l.reverse
  rwa [List.reverse_reverse] at this
theorem lkF_len {n : Nat} (D : List Int) (pr : Nat) (pre : List (Fin n)) : (lkF D pr pre).1.length = n + 1 ∧ (lkF D pr pre).2.length = 256 := by
  induction pre using snocInd with
  | h0 => exact ⟨by simp [lkF], stL_len D⟩
  | h1 l a ih => rw [lkF_snoc]; unfold lkS; simp [ih.1, ih.2]
theorem lkF_bd {n : Nat} (D : List Int) (pr : Nat) (pre : List (Fin n)) : ∀ c, 0 ≤ (lkF D pr pre).2.getD c 0 ∧ (lkF D pr pre).2.getD c 0 ≤ D.length + 1 + pre.length := by
  induction pre using snocInd with
  | h0 =>
    intro c
    show 0 ≤ (stL D).getD c 0 ∧ (stL D).getD c 0 ≤ _
    by_cases hc : c < 256
    · rw [stL_get D c hc]; have := st_bd D c; simp; omega
    · rw [List.getD_eq_getElem?_getD, List.getElem?_eq_none (by rw [stL_len]; omega)]; simp; omega
  | h1 l a ih =>
    intro c
    rw [lkF_snoc, List.length_append]
    unfold lkS
    dsimp only
    have hz := ih (D.getD a.val 0).toNat
    have hcc := ih c
    have e1 : ([a] : List (Fin n)).length = 1 := rfl
    obtain ⟨-, l2⟩ := lkF_len D pr l
    by_cases hzl : (D.getD a.val 0).toNat < 256
    · rw [getD_set _ _ _ _ (by omega)]
      split <;> omega
    · rw [List.set_eq_of_length_le (by omega)]
      omega
theorem rowI_inj {pr i j : Nat} (h : rowI pr i = rowI pr j) : i = j := by
  unfold rowI at h; split at h <;> split at h <;> omega
theorem rowI_le {pr i n : Nat} (h : i < n) : rowI pr i ≤ n := by unfold rowI; split <;> omega
theorem rowI_ne (pr i : Nat) : rowI pr i ≠ pr := by unfold rowI; split <;> omega
/-- What has been linked behind k rows. -/
theorem lkF_spec {n : Nat} (D : List Int) (pr : Nat) (hD : Bytes D) (hn : D.length = n) : ∀ k, k ≤ n →
    (∀ c, c < 256 → (lkF D pr (upF n k)).2.getD c 0 = st D c + cnt D k c) ∧
    (∀ i, i < k → (lkF D pr (upF n k)).1.getD (rowI pr i) 0 = st D (D.getD i 0).toNat + cnt D i (D.getD i 0).toNat) ∧
    (∀ r, (∀ i, i < k → rowI pr i ≠ r) → (lkF D pr (upF n k)).1.getD r 0 = 0)
  | 0, _ => by
    refine ⟨fun c hc => ?_, fun i hi => by omega, fun r _ => ?_⟩
    · show (stL D).getD c 0 = _
      rw [stL_get D c hc]
      simp [cnt]
    · show (List.replicate (n + 1) (0 : Int)).getD r 0 = 0
      rw [List.getD_eq_getElem?_getD, List.getElem?_replicate]
      split <;> rfl
  | k + 1, hk => by
    obtain ⟨h1, h2, h3⟩ := lkF_spec D pr hD hn k (by omega)
    have hkn : k < n := by omega
    rw [upF_succ hkn, lkF_snoc]
    obtain ⟨l1, l2⟩ := lkF_len D pr (upF n k)
    have hy := hD.get k (by omega)
    obtain ⟨z, hz⟩ : ∃ z : Nat, D.getD k 0 = (z : Int) := ⟨_, (Int.eq_ofNat_of_zero_le hy.1).choose_spec⟩
    have hz2 : z < 256 := by omega
    unfold lkS
    dsimp only
    rw [hz, Int.toNat_natCast]
    refine ⟨fun c hc => ?_, fun i hi => ?_, fun r hr => ?_⟩
    · rw [getD_set _ _ _ _ (by omega), cnt_step D k c (by omega), hz]
      by_cases e : z = c
      · subst e; rw [if_pos rfl, if_pos rfl, h1 z hz2]; omega
      · rw [if_neg e, if_neg (by omega), h1 c hc]; omega
    · rw [getD_set _ _ _ _ (by have := rowI_le (pr := pr) hkn; omega)]
      by_cases e : i = k
      · subst e; rw [if_pos rfl, h1 z hz2, hz, Int.toNat_natCast]
      · rw [if_neg (fun h => e (rowI_inj h).symm)]
        exact h2 i (by omega)
    · rw [getD_set _ _ _ _ (by have := rowI_le (pr := pr) hkn; omega), if_neg (hr k (by omega))]
      exact h3 r (fun i hi => hr i (by omega))
/-- The row of a byte of the transformed string. -/
theorem tr_take {b : List Int} {o : List Nat} (r : Nat) : ∃ i, Suf.tr b (o.take r) = (Suf.tr b o).take i ∧ i = (Suf.tr b (o.take r)).length := by
  refine ⟨(Suf.tr b (o.take r)).length, ?_, rfl⟩
  have e : Suf.tr b o = Suf.tr b (o.take r) ++ Suf.tr b (o.drop r) := by
    unfold Suf.tr
    rw [← List.map_append, ← List.filter_append, List.take_append_drop]
  rw [e, List.take_left' rfl]
theorem getD_snoc (l : List Int) (x : Int) (i : Nat) (h : i = l.length) : (l ++ [x]).getD i 0 = x := by subst h; simp [List.getD]
theorem getD_take (l : List Int) (i : Nat) : (l.take (i + 1)).getD i 0 = l.getD i 0 := by simp [List.getD, List.getElem?_take]
theorem row_of {b : List Int} {o : List Nat} (h : Suf.IsSA b o) {i : Nat} (hi : i < b.length) :
    ∃ hr : rowI (Suf.rk b 0) i < o.length, o[rowI (Suf.rk b 0) i] ≠ 0 ∧ (Suf.tr b o).take i = Suf.tr b (o.take (rowI (Suf.rk b 0) i)) ∧ (Suf.tr b o).getD i 0 = b.getD (o[rowI (Suf.rk b 0) i] - 1) 0 := by
  have hol := h.len
  have hle : rowI (Suf.rk b 0) i ≤ b.length := rowI_le hi
  have hr : rowI (Suf.rk b 0) i < o.length := by omega
  obtain ⟨r, hre⟩ : ∃ r, rowI (Suf.rk b 0) i = r := ⟨_, rfl⟩
  have hne : o[rowI (Suf.rk b 0) i] ≠ 0 := fun e => by
    have := h.row _ hr
    rw [e] at this
    exact rowI_ne _ _ this.symm
  refine ⟨hr, hne, ?_⟩
  have hlen := Suf.tr_take_len h (r := rowI (Suf.rk b 0) i) (by omega)
  obtain ⟨j, hj, hj2⟩ := tr_take (b := b) (o := o) (rowI (Suf.rk b 0) i)
  have hij : j = i := by
    rw [hj2, hlen]
    unfold rowI
    split
    · rw [if_pos (by omega)]; omega
    · rw [if_neg (by omega)]
  rw [hij] at hj hj2
  refine ⟨hj.symm, ?_⟩
  have hst := tr_step (b := b) (o := o) hr
  have eg : o.getD (rowI (Suf.rk b 0) i) 0 = o[rowI (Suf.rk b 0) i] := by rw [List.getD_eq_getElem?_getD, List.getElem?_eq_getElem hr]; rfl
  rw [eg, if_neg hne] at hst
  obtain ⟨j3, h3, h4⟩ := tr_take (b := b) (o := o) (rowI (Suf.rk b 0) i + 1)
  rw [hst] at h3 h4
  have h5 : j3 = i + 1 := by rw [h4, List.length_append, ← hj2]; rfl
  rw [h5] at h3
  have h6 : (Suf.tr b (o.take (rowI (Suf.rk b 0) i)) ++ [b.getD (o[rowI (Suf.rk b 0) i] - 1) 0]).getD i 0 = ((Suf.tr b o).take (i + 1)).getD i 0 := by rw [h3]
  rw [getD_snoc _ _ _ hj2, getD_take] at h6
  exact h6.symm
/-- The links lead to the row of the suffix with one byte more. -/
theorem lk_row {b : List Int} (hb : Bytes b) {o : List Nat} (h : Suf.IsSA b o) {n : Nat} (hn : b.length = n) {i : Nat} (hi : i < n) :
    ∃ hr : rowI (Suf.rk b 0) i < o.length, (lkF (n := n) (Suf.tr b o) (Suf.rk b 0) (List.finRange n)).1.getD (rowI (Suf.rk b 0) i) 0 = (Suf.rk b (o[rowI (Suf.rk b 0) i] - 1) : Int) := by
  have hT : Bytes (Suf.tr b o) := tr_bytes hb (fun x hx => by have := List.mem_range.1 (h.perm.mem_iff.1 hx); omega)
  have hTl : (Suf.tr b o).length = n := by rw [Suf.tr_length h.perm, hn]
  have hs := (lkF_spec (Suf.tr b o) (Suf.rk b 0) hT hTl n (Nat.le_refl _)).2.1 i hi
  rw [upF_all] at hs
  obtain ⟨hr, hne, htk, hgd⟩ := row_of h (i := i) (by omega)
  refine ⟨hr, ?_⟩
  rw [hs]
  have hlf := h.lf hr hne
  have hy := hT.get i (by omega)
  obtain ⟨z, hz⟩ : ∃ z : Nat, (Suf.tr b o).getD i 0 = (z : Int) := ⟨_, (Int.eq_ofNat_of_zero_le hy.1).choose_spec⟩
  rw [← hgd, hz] at hlf
  rw [hz, Int.toNat_natCast]
  unfold st cnt
  rw [Suf.tr_countP h.perm, htk]
  omega
end Go.Proofs.Ytfebgcbkadmgiaa
