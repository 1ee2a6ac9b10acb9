/- Layer 33: at, slices.Reverse of bytes. -/
import Derived.Test.YtfebgcbkadmgiaaSfo
import Derived.Test.YtfebgcbkadmgiaaHu
namespace Go.Proofs.Ytfebgcbkadmgiaa
open Go.RowKit
set_option linter.unusedVariables false
set_option linter.unusedSimpArgs false
attribute [local go_sem ↓] Go.wp_at_zero Go.wp_at_succ

/-- Where the byte of a row stands. -/
def atI (pr r : Nat) : Nat := if pr < r then r - 1 else r
def AtP (w : World) (y : Int) (e : Ending) (w' : World) : Prop := e = .returned (.int .u8 y) ∧ Ext w w'
set_option maxRecDepth 100000 in
theorem at_any (v : Value) (D : List Int) (pr r : Nat) (hn : D.length ≤ 1000) (hr : r ≤ D.length) (hpr : r ≠ pr) (hp : pr ≤ D.length) (w : World) (h : Rd8 w v D) :
    Calls Try.prog 38 #[.agg #[v, .int .i64 (pr : Int)], .int .i64 (r : Int)] w (AtP w (D.getD (atI pr r) 0)) := by
  obtain ⟨ad, cap, rfl, q1, q2, q3⟩ := Rd.shape h
  obtain ⟨n, hne⟩ : ∃ n, D.length = n := ⟨_, rfl⟩
  have hR : Hid (Rd8 w (.slice ad n cap) D) := hidden (by rw [← hne]; exact h)
  rw [hne] at q1 hn hr hp ⊢
  have hk : atI pr r < n := by unfold atI; split <;> omega
  obtain ⟨k, hke⟩ : ∃ k, atI pr r = k := ⟨_, rfl⟩
  rw [hke] at hk ⊢
  obtain ⟨b, off, rfl, hb⟩ := Rd8.some h (by omega)
  have hc := Rd8.at (Rd.alloc h (.cells #[.slice (some ⟨b, off, none⟩) D.length cap, .int .i64 (pr : Int)] 46)) k (by omega)
  rw [hne] at hc
  have hlt : b < w.heap.size := hb
  obtain ⟨y, hy⟩ : ∃ y, D.getD k 0 = y := ⟨_, rfl⟩
  rw [hy] at hc ⊢
  have k1 : (k : Int) < (n : Int) := by omega
  unfold atI at hke
  clear h hy
  replace hne := hidden hne
  go_enter Try.func38, Try.ntmps38
  by_cases hlt2 : pr < r
  · rw [if_pos hlt2] at hke
    obtain rfl : r = k + 1 := by omega
    have v4 : IntKind.i64.wrap ((k : Int) + 1 - 1) = (k : Int) := by rw [IntWalk.i64_in _ (by omega)]; omega
    have v5 : IntKind.i64.wrap (k : Int) = (k : Int) := IntWalk.i64_in _ (by omega)
    have v6 : (pr : Int) < (k : Int) + 1 := by omega
    rw [show ((k + 1 : Nat) : Int) = (k : Int) + 1 by omega]
    clear hke
    go_wp2_with fail
    go_ret
    exact ⟨rfl, (Ext.refl w).alloc _⟩
  · rw [if_neg hlt2] at hke
    subst hke
    have v6 : ¬ (pr : Int) < (r : Int) := by omega
    go_wp2_with fail
    go_ret
    exact ⟨rfl, (Ext.refl w).alloc _⟩

/-- k exchanges from both ends. -/
def rvF (l : List Int) : Nat → List Int
  | 0 => l
  | k + 1 => ((rvF l k).set k ((rvF l k).getD (l.length - 1 - k) 0)).set (l.length - 1 - k) ((rvF l k).getD k 0)
theorem rvF_len (l : List Int) : ∀ k, (rvF l k).length = l.length
  | 0 => rfl
  | k + 1 => by rw [rvF]; simp [rvF_len l k]
theorem rvF_get (l : List Int) : ∀ k, 2 * k ≤ l.length → ∀ i, i < l.length → (rvF l k).getD i 0 = if i < k ∨ l.length - 1 - i < k then l.getD (l.length - 1 - i) 0 else l.getD i 0
  | 0, _, i, hi => by rw [if_neg (by omega)]; rfl
  | k + 1, hk, i, hi => by
    have ih := rvF_get l k (by omega)
    have hl := rvF_len l k
    rw [rvF, getD_set _ _ _ _ (by simp [hl]; omega)]
    by_cases e : l.length - 1 - k = i
    · rw [if_pos e, ih k (by omega), if_neg (by omega), if_pos (by omega)]
      congr 1
      omega
    · rw [if_neg e, getD_set _ _ _ _ (by omega)]
      by_cases e2 : k = i
      · rw [if_pos e2, ih _ (by omega), if_neg (by omega), if_pos (by omega)]
        congr 1
        omega
      · rw [if_neg e2, ih i hi]
        by_cases e3 : i < k ∨ l.length - 1 - i < k
        · rw [if_pos e3, if_pos (by omega)]
        · rw [if_neg e3, if_neg (by omega)]
theorem rvF_all (l : List Int) (k : Nat) (h : 2 * k ≤ l.length) (h2 : l.length ≤ 2 * k + 1) : rvF l k = l.reverse := by
  refine List.ext_getElem (by simp [rvF_len]) fun i h3 h4 => ?_
  have hi : i < l.length := by simpa using h4
  have := rvF_get l k h i hi
  rw [List.getD_eq_getElem?_getD, List.getElem?_eq_getElem h3] at this
  simp only [Option.getD_some] at this
  rw [this, List.getElem_reverse]
  have g : ∀ j, (hj : j < l.length) → l.getD j 0 = l[j] := fun j hj => by rw [List.getD_eq_getElem?_getD, List.getElem?_eq_getElem hj]; rfl
  by_cases e : i < k ∨ l.length - 1 - i < k
  · rw [if_pos e, g _ (by omega)]
  · rw [if_neg e, g _ hi]
    congr 1
    omega
def RevP (w : World) (B : Nat) (v : Value) (l : List Int) (e : Ending) (w' : World) : Prop := e = .returned (.tuple #[]) ∧ Own8 w' B v l ∧ Chg v.ownBlock.toList w w'
set_option maxRecDepth 100000 in
set_option maxHeartbeats 1000000 in
theorem reverse_any (v : Value) (l : List Int) (B : Nat) (hn : l.length ≤ 1000) (w : World) (h : Own8 w B v l) :
    Calls Try.prog 39 #[v] w (RevP w B v l.reverse) := by
  obtain ⟨n, hne⟩ : ∃ n, l.length = n := ⟨_, rfl⟩
  rcases h.shape with ⟨rfl, rfl⟩ | ⟨g, cap, rfl, hg1, hg2, hg3, hg4⟩
  · go_enter Try.func39, Try.ntmps39
    go_wp2_with fail
    refine wp_loop_rounds 1 ?_
    rw [rounds_succ]
    go_wp2_with fail
    go_end0
    exact ⟨rfl, h, Chg.refl _ _⟩
  · rw [hne] at hg3 hn h ⊢
    have hv0 : IntKind.i64.wrap ((n : Int) - 1) = (n : Int) - 1 := IntWalk.i64_in _ (by omega)
    have hO : Hid (Own8 w B (.slice (some ⟨g, 0, none⟩) n cap) (rvF l 0)) := h
    clear h
    replace hne := hidden hne
    go_enter Try.func39, Try.ntmps39
    go_wp2_with fail
    go_loopw [2, 3] (fun i j wr => ∃ k : Nat, i = .int .i64 (k : Int) ∧ j = .int .i64 ((n : Int) - 1 - (k : Int)) ∧ 2 * k ≤ n ∧ Hid (Own8 wr B (.slice (some ⟨g, 0, none⟩) n cap) (rvF l k)) ∧ Hid (Chg [g] w wr)) (fun i _ _ => n - (intOf i).toNat)
    case atStart => exact ⟨0, rfl, by simp, by omega, hO, hidden (Chg.refl _ _)⟩
    case round =>
      clear hO
      obtain ⟨k, rfl, rfl, hk, hO, hC⟩ := hrel
      obtain ⟨W, hWW⟩ : ∃ Z, Z = wr := ⟨_, rfl⟩
      subst hWW
      by_cases hlt : 2 * k + 1 < n
      · obtain ⟨m, hm⟩ : ∃ m : Nat, n - 1 - k = m := ⟨_, rfl⟩
        have em : (n : Int) - 1 - (k : Int) = (m : Int) := by omega
        have k1 : (k : Int) < (m : Int) := by omega
        have k2 : (k : Int) < (n : Int) := by omega
        have k3 : (m : Int) < (n : Int) := by omega
        have hl := rvF_len l k
        rw [hne.out] at hl
        have cK := hO.out.rd.at k (by omega)
        have cM := hO.out.rd.at m (by omega)
        have fK := hO.out.frozen k
        have fM := hO.out.frozen m
        rw [Nat.zero_add] at cK cM
        have hst : rvF l (k + 1) = ((rvF l k).set k ((rvF l k).getD m 0)).set m ((rvF l k).getD k 0) := by rw [rvF, hne.out, hm]
        obtain ⟨x, hx⟩ : ∃ x, (rvF l k).getD k 0 = x := ⟨_, rfl⟩
        obtain ⟨y, hy⟩ : ∃ y, (rvF l k).getD m 0 = y := ⟨_, rfl⟩
        rw [hx] at cK hst
        rw [hy] at cM hst
        have hO2 := (Own8.set hO.out k y).set m x
        rw [← hst] at hO2
        have hC2 := (hC.out.setCell (p := ⟨g, k, none⟩) (Or.inl (by simp)) (.int .u8 y)).setCell (p := ⟨g, m, none⟩) (Or.inl (by simp)) (.int .u8 x)
        have v1 : IntKind.i64.wrap ((k : Int) + 1) = (k : Int) + 1 := IntWalk.i64_in _ (by omega)
        have v2 : IntKind.i64.wrap ((m : Int) - 1) = (m : Int) - 1 := IntWalk.i64_in _ (by omega)
        have hkm : k ≠ m := by omega
        have em2 : (m : Int) - 1 = (n : Int) - 1 - ((k + 1 : Nat) : Int) := by omega
        rw [em]
        replace em2 := hidden em2
        replace hO2 := hidden hO2
        replace hC2 := hidden hC2
        clear hst hx hy em hm hO hC
        go_wp2_with fail
        go_region
        go_wp2_with fail
        go_roundw
        case rel => exact ⟨k + 1, by go_num, by rw [← em2.out], by omega, hidden (own_ext hO2.out (Ext.refl _).drew), hidden (hC2.out.drew)⟩
        case measure => simp [intOf]; omega
      · have h1 : ¬ (k : Int) < (n : Int) - 1 - (k : Int) := by omega
        have hO2 := hO.out
        rw [rvF_all l k (by rw [hne.out]; exact hk) (by rw [hne.out]; omega)] at hO2
        replace hO2 := hidden hO2
        clear hO
        go_wp2_with fail
        go_end0
        exact ⟨rfl, hO2.out, hC.out⟩
end Go.Proofs.Ytfebgcbkadmgiaa
