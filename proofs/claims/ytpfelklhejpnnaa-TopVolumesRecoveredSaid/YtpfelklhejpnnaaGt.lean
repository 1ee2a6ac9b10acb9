/- A matrix in memory whose rows are owned (GM); one step of the reduction, plain. -/
import Derived.Test.YtpfelklhejpnnaaGs
namespace Go.Proofs.Ytpfelklhejpnnaa
open Go.RowKit
set_option linter.unusedVariables false
set_option linter.unusedSimpArgs false

theorem own_ne_own {w : World} {B B' : Nat} {e e' : TypeId} {sz n sz' n' x : Nat} {v v' : Value} {xs xs' : List Value} (h : w.ownsRow B e sz v n xs) (h' : w.ownsRow B' e' sz' v' n' xs') (hne : e ≠ e') (hx : v.ownBlock = some x) : v'.ownBlock ≠ some x := by
  intro hx'
  rcases h.2 with ⟨rfl, _⟩ | ⟨g, cap, cur, rfl, _, hg, _⟩
  · simp [Value.ownBlock] at hx
  rcases h'.2 with ⟨rfl, _⟩ | ⟨g', cap', cur', rfl, _, hg', _⟩
  · simp [Value.ownBlock] at hx'
  simp [Value.ownBlock] at hx hx'
  subst hx hx'
  rw [hg] at hg'
  simp at hg'
  exact hne hg'.2
/-- The value of a row. -/
def RV (g cp : Nat → Nat) (W i : Nat) : Value := .slice (some ⟨g i, 0, none⟩) W (cp i)
/-- A matrix whose rows are owned. -/
structure GM (w : World) (B : Nat) (v : Value) (n W : Nat) (g cp : Nat → Nat) (L : List (List Int)) : Prop where
  own : w.ownsRow B 22 1 v n ((List.range n).map (RV g cp W))
  rows : ∀ i, i < n → Own8 w B (RV g cp W i) (L.getD i [])
  len : L.length = n
  wid : ∀ i, i < n → (L.getD i []).length = W
  byt : ∀ i, i < n → Bytes (L.getD i [])
  inj : ∀ i j, i < n → j < n → g i = g j → i = j
theorem RV_block (g cp : Nat → Nat) (W i : Nat) : (RV g cp W i).ownBlock = some (g i) := rfl
theorem GM.off {w : World} {B : Nat} {v : Value} {n W : Nat} {g cp : Nat → Nat} {L : List (List Int)} (h : GM w B v n W g cp L) {i : Nat} (hi : i < n) : v.ownBlock ≠ some (g i) :=
  own_ne_own (h.rows i hi) h.own (by decide) rfl
theorem GM.ge {w : World} {B : Nat} {v : Value} {n W : Nat} {g cp : Nat → Nat} {L : List (List Int)} (h : GM w B v n W g cp L) {i : Nat} (hi : i < n) : B ≤ g i ∧ g i < w.heap.size := own_lt (h.rows i hi) rfl
theorem GM.ext {w w' : World} {B : Nat} {v : Value} {n W : Nat} {g cp : Nat → Nat} {L : List (List Int)} (h : GM w B v n W g cp L) (k : Ext w w') : GM w' B v n W g cp L :=
  ⟨own_ext h.own k, fun i hi => own_ext (h.rows i hi) k, h.len, h.wid, h.byt, h.inj⟩
theorem GM.chg {w w' : World} {B x : Nat} {v : Value} {n W : Nat} {g cp : Nat → Nat} {L : List (List Int)} (h : GM w B v n W g cp L) (k : Chg [x] w w') (hv : v.ownBlock ≠ some x) (hr : ∀ i, i < n → g i ≠ x) : GM w' B v n W g cp L :=
  ⟨own_chg h.own k (by simpa using hv), fun i hi => own_chg (h.rows i hi) k (by intro y hy; simp at hy; subst hy; rw [RV_block]; simpa using hr i hi), h.len, h.wid, h.byt, h.inj⟩
/-- A block of another type is none of them. -/
theorem GM.chg_blk {w w' : World} {B q : Nat} {t : TypeId} {cs : List Value} {v : Value} {n W : Nat} {g cp : Nat → Nat} {L : List (List Int)} (h : GM w B v n W g cp L) (hB : Blk w q t cs) (h1 : t ≠ 5) (h2 : t ≠ 22) (k : Chg [q] w w') : GM w' B v n W g cp L :=
  h.chg k (own_ne_blk h.own hB h2) (fun i hi hg => own_ne_blk (h.rows i hi) hB h1 (by rw [RV_block, hg]))
theorem GM.cell {w : World} {B ob n cap : Nat} {W : Nat} {g cp : Nat → Nat} {L : List (List Int)} (h : GM w B (.slice (some ⟨ob, 0, none⟩) n cap) n W g cp L) {i : Nat} (hi : i < n) : w.cell? ⟨ob, i, none⟩ = some (.slice (some ⟨g i, 0, none⟩) W (cp i)) := by
  have := h.own.cells (g := ob) rfl i (RV g cp W i) (by simp [hi])
  rw [show (⟨ob, 0, none⟩ : Addr).add i = ⟨ob, i, none⟩ from by unfold Addr.add; split <;> simp_all] at this
  exact this
theorem GM.rl {w : World} {B n W : Nat} {v : Value} {g cp : Nat → Nat} {L : List (List Int)} (h : GM w B v n W g cp L) : RL w v L := by
  refine ⟨(List.range n).map (RV g cp W), by rw [h.len]; exact Rd.of_own h.own, by simp [h.len], fun i u C hu hC => ?_⟩
  have hi : i < n := by have := (List.getElem?_eq_some_iff.1 hu).1; simpa using this
  have hL : L[i]? = some (L.getD i []) := by simp [List.getD, show i < L.length from by rw [h.len]; exact hi]
  rw [List.getElem?_map, hL] at hC
  simp [hi] at hu hC
  subst hu
  have := (h.rows i hi).rd
  unfold Rd8 at this
  rw [List.getD_eq_getElem?_getD] at this
  rw [← hC, bs_len]
  exact this
theorem set_getD {L : List (List Int)} {i j : Nat} {T : List Int} (hi : i < L.length) : (L.set i T).getD j [] = if j = i then T else L.getD j [] := by
  rw [List.getD_eq_getElem?_getD, List.getElem?_set]
  by_cases h : i = j
  · subst h; simp [hi]
  · rw [if_neg h, if_neg (fun e => h e.symm), List.getD_eq_getElem?_getD]
/-- A row is another one. -/
theorem GM.setRow {w w' : World} {B n W : Nat} {v : Value} {g cp : Nat → Nat} {L : List (List Int)} (h : GM w B v n W g cp L) {i : Nat} (hi : i < n) {T : List Int} (hT : Own8 w' B (RV g cp W i) T) (hl : T.length = W) (hb : Bytes T) (k : Chg [g i] w w') : GM w' B v n W g cp (L.set i T) := by
  have hiL : i < L.length := by rw [h.len]; exact hi
  refine ⟨own_chg h.own k (by intro y hy; simp at hy; subst hy; exact h.off hi), fun j hj => ?_, by simp [h.len], fun j hj => ?_, fun j hj => ?_, h.inj⟩
  · rw [set_getD hiL]
    by_cases hji : j = i
    · rw [if_pos hji, hji]; exact hT
    · rw [if_neg hji]
      exact own_chg (h.rows j hj) k (by intro y hy; simp at hy; subst hy; rw [RV_block]; intro e; simp at e; exact hji (h.inj j i hj hi e))
  · rw [set_getD hiL]
    by_cases hji : j = i
    · rw [if_pos hji]; exact hl
    · rw [if_neg hji]; exact h.wid j hj
  · rw [set_getD hiL]
    by_cases hji : j = i
    · rw [if_pos hji]; exact hb
    · rw [if_neg hji]; exact h.byt j hj
/-- Two rows exchanged. -/
def swI (a b i : Nat) : Nat := if i = b then a else if i = a then b else i
def swL (L : List (List Int)) (a b : Nat) : List (List Int) := (L.set a (L.getD b [])).set b (L.getD a [])
theorem swL_get {L : List (List Int)} {a b : Nat} (ha : a < L.length) (hb : b < L.length) (i : Nat) : (swL L a b).getD i [] = L.getD (swI a b i) [] := by
  unfold swL swI
  rw [set_getD (by simpa using hb), set_getD ha]
  by_cases h1 : i = b
  · rw [if_pos h1, if_pos h1]
  · rw [if_neg h1, if_neg h1]
    by_cases h2 : i = a
    · rw [if_pos h2, if_pos h2]
    · rw [if_neg h2, if_neg h2]
theorem swI_lt {a b n i : Nat} (ha : a < n) (hb : b < n) (hi : i < n) : swI a b i < n := by
  unfold swI
  split <;> (try split) <;> omega
theorem GM.swap {w : World} {B ob n cap W : Nat} {g cp : Nat → Nat} {L : List (List Int)} (h : GM w B (.slice (some ⟨ob, 0, none⟩) n cap) n W g cp L) {a b : Nat} (ha : a < n) (hb : b < n) :
    GM ((w.setCell ⟨ob, a, none⟩ (.slice (some ⟨g b, 0, none⟩) W (cp b))).setCell ⟨ob, b, none⟩ (.slice (some ⟨g a, 0, none⟩) W (cp a))) B (.slice (some ⟨ob, 0, none⟩) n cap) n W (fun i => g (swI a b i)) (fun i => cp (swI a b i)) (swL L a b) := by
  have h1 := (World.ownsRow.stored h.own a (.slice (some ⟨g b, 0, none⟩) W (cp b))).1
  have h2 := (World.ownsRow.stored h1 b (.slice (some ⟨g a, 0, none⟩) W (cp a))).1
  have hL1 : a < L.length := by rw [h.len]; exact ha
  have hL2 : b < L.length := by rw [h.len]; exact hb
  refine ⟨?_, fun i hi => ?_, by simp [swL, h.len], fun i hi => ?_, fun i hi => ?_, fun i j hi hj e => ?_⟩
  · rw [show (List.range n).map (RV (fun i => g (swI a b i)) (fun i => cp (swI a b i)) W) = (((List.range n).map (RV g cp W)).set a (.slice (some ⟨g b, 0, none⟩) W (cp b))).set b (.slice (some ⟨g a, 0, none⟩) W (cp a)) from by
      apply List.ext_getElem (by simp)
      intro i k1 k2
      rw [List.getElem_set, List.getElem_set]
      simp only [List.getElem_map, List.getElem_range, RV, swI]
      by_cases e1 : b = i
      · simp [e1]
      · have e1' : ¬ i = b := fun e => e1 e.symm
        by_cases e2 : a = i
        · simp [e1, e1', e2]
        · have e2' : ¬ i = a := fun e => e2 e.symm
          simp [e1, e1', e2, e2']]
    exact h2
  · rw [swL_get hL1 hL2]
    have hlt := swI_lt ha hb hi
    have k1 := ownsRow_setCell_other (h.rows _ hlt) (a := ⟨ob, a, none⟩) (fun e => h.off hlt (by rw [RV_block] at e; simp at e; rw [e]; rfl)) (.slice (some ⟨g b, 0, none⟩) W (cp b))
    exact ownsRow_setCell_other k1 (a := ⟨ob, b, none⟩) (fun e => h.off hlt (by rw [RV_block] at e; simp at e; rw [e]; rfl)) _
  · rw [swL_get hL1 hL2]; exact h.wid _ (swI_lt ha hb hi)
  · rw [swL_get hL1 hL2]; exact h.byt _ (swI_lt ha hb hi)
  · have := h.inj _ _ (swI_lt ha hb hi) (swI_lt ha hb hj) e
    unfold swI at this
    split at this <;> split at this <;> (try split at this) <;> (try split at this) <;> omega
theorem GM.nil (w : World) (B W : Nat) : GM w B (.slice none 0 0) 0 W (fun _ => 0) (fun _ => 0) [] :=
  ⟨World.ownsRow_nil _ _ _ _, fun i hi => absurd hi (Nat.not_lt_zero _), rfl, fun i hi => absurd hi (Nat.not_lt_zero _), fun i hi => absurd hi (Nat.not_lt_zero _), fun i j hi => absurd hi (Nat.not_lt_zero _)⟩

/-- The pivot row, scaled. -/
def pivF (c : Nat) (L : List (List Int)) : List Int := mixF (Gf.inv ((L.getD c []).getD c 0).toNat ^^^ 1) (L.getD c []) (L.getD c [])
/-- Rows below a bound other than the pivot's are cleared. -/
def clrF (c k : Nat) (P : List Int) (L : List (List Int)) : List (List Int) := (List.range L.length).map fun i => if i < k ∧ i ≠ c then mixF ((L.getD i []).getD c 0).toNat (L.getD i []) P else L.getD i []
/-- What the closure asks. -/
def nzF (c : Nat) (l : List Int) : Bool := decide (l.getD c 0 ≠ 0)
/-- One column. -/
def redS (c p : Nat) (L : List (List Int)) : List (List Int) :=
  let L1 := swL L c (c + p)
  let L2 := L1.set c (pivF c L1)
  clrF c L2.length (L2.getD c []) L2
/-- The matrix behind some columns. -/
def redK (L : List (List Int)) : Nat → List (List Int)
  | 0 => L
  | c + 1 => redS c (ixF (nzF c) ((redK L c).drop c)).toNat (redK L c)
/-- Each column has its pivot. -/
def RedOK (L : List (List Int)) (n : Nat) : Prop := ∀ c, c < n → 0 ≤ ixF (nzF c) ((redK L c).drop c)
theorem clrF_zero (c : Nat) (P : List Int) (L : List (List Int)) : clrF c 0 P L = L := by
  unfold clrF
  apply List.ext_getElem (by simp)
  intro i h1 h2
  simp [List.getD, h2]
theorem clrF_len (c k : Nat) (P : List Int) (L : List (List Int)) : (clrF c k P L).length = L.length := by simp [clrF]
theorem clrF_get (c k : Nat) (P : List Int) (L : List (List Int)) (i : Nat) (hi : i < L.length) : (clrF c k P L).getD i [] = if i < k ∧ i ≠ c then mixF ((L.getD i []).getD c 0).toNat (L.getD i []) P else L.getD i [] := by
  rw [List.getD_eq_getElem?_getD]
  simp [clrF, hi]
theorem clrF_skip (c : Nat) (P : List Int) (L : List (List Int)) : clrF c (c + 1) P L = clrF c c P L := by
  unfold clrF
  refine List.map_congr_left fun i hi => ?_
  by_cases h : i < c + 1 ∧ i ≠ c
  · rw [if_pos h, if_pos ⟨by omega, h.2⟩]
  · rw [if_neg h, if_neg (by omega)]
theorem clrF_step (c k : Nat) (P : List Int) (L : List (List Int)) (hk : k < L.length) (hc : k ≠ c) : clrF c (k + 1) P L = (clrF c k P L).set k (mixF ((L.getD k []).getD c 0).toNat (L.getD k []) P) := by
  apply List.ext_getElem (by simp [clrF])
  intro i h1 h2
  rw [List.getElem_set]
  have hi : i < L.length := by simpa [clrF] using h1
  by_cases e : k = i
  · subst e
    rw [if_pos rfl]
    simp [clrF, hc]
  · rw [if_neg e]
    simp only [clrF, List.getElem_map, List.getElem_range]
    by_cases h : i < k ∧ i ≠ c
    · rw [if_pos ⟨by omega, h.2⟩, if_pos h]
    · rw [if_neg (by omega), if_neg h]
theorem ixF_lt (p : List Int → Bool) (L : List (List Int)) (h : 0 ≤ ixF p L) : (ixF p L).toNat < L.length := by
  unfold ixF at *
  cases hf : L.findIdx? p with
  | none => rw [hf] at h; simp at h
  | some i =>
    rw [List.findIdx?_eq_some_iff_getElem] at hf
    obtain ⟨hi, -⟩ := hf
    simpa using hi
end Go.Proofs.Ytpfelklhejpnnaa
