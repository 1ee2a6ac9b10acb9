/- Layer 32: Ranks. -/
import Derived.Test.YtfebgcbkadmgiaaSfg
import Derived.Test.YtfebgcbkadmgiaaSfh
namespace Go.Proofs.Ytfebgcbkadmgiaa
open Go.RowKit
set_option linter.unusedVariables false
set_option linter.unusedSimpArgs false
attribute [local go_sem ↓] Go.wp_at_zero Go.wp_at_succ

/-- The rows of the places behind k rounds. -/
def rkR (b : List Int) (k : Nat) : List Int := (List.range (b.length + 1)).map fun p => if Suf.rk b p < k then (Suf.rk b p : Int) else -1
theorem rkR_len (b : List Int) (k : Nat) : (rkR b k).length = b.length + 1 := by simp [rkR]
theorem rkR_at (b : List Int) (k i : Nat) (h : i < (rkR b k).length) : (rkR b k)[i] = if Suf.rk b i < k then (Suf.rk b i : Int) else -1 := by
  simp only [rkR, List.getElem_map, List.getElem_range]
theorem rkR_get (b : List Int) (k p : Nat) (hp : p ≤ b.length) : (rkR b k).getD p 0 = if Suf.rk b p < k then (Suf.rk b p : Int) else -1 := by
  unfold rkR
  rw [List.getD_eq_getElem?_getD, List.getElem?_map, List.getElem?_range (by omega)]
  rfl
theorem rkR_zero (b : List Int) : rkR b 0 = List.replicate (b.length + 1) (-1) := by
  unfold rkR
  refine List.ext_getElem (by simp) fun i h1 h2 => ?_
  simp
theorem rkR_step {b : List Int} {o : List Nat} (h : Suf.IsSA b o) {k : Nat} (hk : k < o.length) : (rkR b k).set (o.getD k 0) (k : Int) = rkR b (k + 1) := by
  have e : o.getD k 0 = o[k] := by rw [List.getD_eq_getElem?_getD, List.getElem?_eq_getElem hk]; rfl
  rw [e]
  have hr := h.row k hk
  have hle := h.le k hk
  refine List.ext_getElem (by simp [rkR_len]) fun i h1 h2 => ?_
  rw [rkR_len] at h2
  rw [List.getElem_set]
  rw [rkR_at, rkR_at]
  by_cases hi : o[k] = i
  · rw [if_pos hi, ← hi, hr, if_pos (by omega)]
  · rw [if_neg hi]
    have hne : Suf.rk b i ≠ k := fun e2 => hi (Suf.rk_inj hle (by omega) (by rw [hr, e2]))
    by_cases h3 : Suf.rk b i < k
    · rw [if_pos h3, if_pos (by omega)]
    · rw [if_neg h3, if_neg (by omega)]
/-- All rows. -/
def rks (b : List Int) : List Int := (List.range (b.length + 1)).map fun p => (Suf.rk b p : Int)
theorem rkR_all {b : List Int} {o : List Nat} (h : Suf.IsSA b o) : rkR b (b.length + 1) = rks b := by
  unfold rkR rks
  refine List.map_congr_left fun p hp => ?_
  have hp2 := List.mem_range.1 hp
  rw [if_pos (by have := (h.at_ (p := p) (by omega)).1; rw [h.len] at this; exact this)]
def RanksP (w : World) (l : List Int) (e : Ending) (w' : World) : Prop := ∃ v, e = .returned (.tuple #[v, .int .i64 0]) ∧ OwnI w' w.heap.size v l ∧ Ext w w'

set_option maxRecDepth 100000 in
set_option maxHeartbeats 2000000 in
theorem ranks_any (b : List Int) (o : List Nat) (h : Suf.IsSA b o) (hn : b.length ≤ 1000) (p cap : Nat) (w : World) (hp : Blk w p 3 (nv o)) :
    Calls Try.prog 6 #[.slice (some ⟨p, 0, none⟩) (b.length + 1) cap] w (RanksP w (rks b)) := by
  obtain ⟨n, hne⟩ : ∃ n, b.length = n := ⟨_, rfl⟩
  have hol := h.len
  rw [hne] at hol hn ⊢
  have hrep := fun c W hc => rep_any w.heap.size c (n + 1) W hc (by omega)
  rw [show (((n + 1 : Nat) : Int)) = (n : Int) + 1 by omega] at hrep
  have hw0 : IntKind.i64.wrap ((n : Int) + 1) = (n : Int) + 1 := IntWalk.i64_in _ (by omega)
  have d1 : decide ((n : Int) + 1 < 1) = false := by simp; omega
  have d2 : decide (65537 < (n : Int) + 1) = false := by simp; omega
  replace hrep := hidden hrep
  replace hne := hidden hne
  replace h := hidden h
  replace hol := hidden hol
  replace hp := hidden hp
  go_enter Try.func6, Try.ntmps6
  go_wp2_with fail
  have cO := (Blk.new w [.int .i64 (-1)] 3).cell 0 _ rfl
  refine (hrep.out 1 _ cO).mono ?_
  clear cO hrep
  rintro e w1 ⟨v, rfl, hO, hX⟩
  have hX1 : Ext w w1 := hX.past
  have hlt : w.heap.size < w1.heap.size := by have := hX.size; rw [World.size_alloc] at this; omega
  have hO0 : OwnI w1 w.heap.size v (rkR b 0) := by
    rw [rkR_zero, hne.out]
    exact own_mono hO (by rw [World.size_alloc]; omega)
  obtain ⟨a1, c1, rfl, -, -, hg⟩ := own_shape hO
  rw [List.length_replicate] at hg
  obtain ⟨g, rfl, hg1, hg2⟩ := hg (by omega)
  rw [List.length_replicate] at hO0 ⊢
  rw [World.size_alloc] at hg1
  have hpl := (hp.out.ext hX1).lt
  have hgp : g ≠ p := by have := hp.out.lt; omega
  replace hO0 := hidden hO0
  replace hX1 := hidden hX1
  clear hO hX
  go_wp2_with fail
  obtain ⟨W1, hW1⟩ : ∃ X, X = w1 := ⟨_, rfl⟩
  subst hW1
  go_loopw [21] (fun i wr => ∃ k : Nat, i = .int .i64 (k : Int) ∧ k ≤ n + 1 ∧ Hid (OwnI wr w.heap.size (.slice (some ⟨g, 0, none⟩) (n + 1) c1) (rkR b k)) ∧ Hid (Ext w wr)) (fun i _ => n + 1 - (intOf i).toNat)
  case atStart => exact ⟨0, rfl, by omega, hO0, hX1⟩
  case round =>
    clear hO0 hX1
    obtain ⟨k, rfl, hk, hO, hX⟩ := hrel
    obtain ⟨w2, hWW⟩ : ∃ X, X = wr := ⟨_, rfl⟩
    subst hWW
    have v1 : IntKind.i64.wrap ((k : Int) + 1) = (k : Int) + 1 := IntWalk.i64_in _ (by omega)
    by_cases hlt : k < n + 1
    · have hlt2 : (k : Int) < (n : Int) + 1 := by omega
      have cp := (hp.out.ext hX.out).cell k _ (nv_get o k (by rw [hol.out]; omega))
      have hko : k < o.length := by rw [hol.out]; omega
      have hst := hidden (rkR_step h.out hko)
      have e : o.getD k 0 = o[k] := by rw [List.getD_eq_getElem?_getD, List.getElem?_eq_getElem hko]; rfl
      have hle := h.out.le k hko
      have hrow := h.out.row k hko
      rw [hne.out, ← e] at hle
      rw [← e] at hrow
      have cx := hO.out.at (o.getD k 0) (by rw [rkR_len, hne.out]; omega)
      rw [rkR_get _ _ _ (by rw [hne.out]; exact hle), hrow, if_neg (by omega)] at cx
      have fx := hO.out.fr (o.getD k 0)
      obtain ⟨q, hq⟩ : ∃ q, o.getD k 0 = q := ⟨_, rfl⟩
      rw [hq] at cp cx fx hst hle
      clear e hrow hko hq
      have hO2 := OwnI.set hO.out q (k : Int)
      rw [hst.out] at hO2
      have hX2 := Ext.setCell hX.out (p := ⟨g, q, none⟩) (by show w.heap.size ≤ g; omega) (.int .i64 (k : Int))
      replace hO2 := hidden hO2
      replace hX2 := hidden hX2
      have q1 : ¬ (q : Int) < 0 := by omega
      have q2 : (q : Int) < (n : Int) + 1 := by omega
      have q3 : ¬ (n : Int) + 1 ≤ (q : Int) := by omega
      have q4 : decide ((q : Int) < 0) = false := decide_eq_false (by omega)
      have q5 : decide ((n : Int) + 1 ≤ (q : Int)) = false := decide_eq_false (by omega)
      clear hO hX hst
      go_wp2_with fail
      go_roundw
      case rel => exact ⟨k + 1, by go_num, by omega, hO2, hX2⟩
      case measure => simp [intOf]; omega
    · obtain hkn : k = n + 1 := by omega
      have hO2 := hO.out
      rw [hkn, ← hne.out, rkR_all h.out] at hO2
      rw [hne.out] at hO2
      replace hO2 := hidden hO2
      have hlt3 : decide ((k : Int) < (n : Int) + 1) = false := decide_eq_false (by omega)
      replace hkn := hidden hkn
      clear hO
      go_wp2_with fail
      go_ret2
      exact ⟨_, rfl, hO2.out, hX.out⟩
end Go.Proofs.Ytfebgcbkadmgiaa
