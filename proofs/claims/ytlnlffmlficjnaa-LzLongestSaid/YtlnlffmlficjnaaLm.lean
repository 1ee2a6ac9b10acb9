/- Layer 35: reading of tokens, plainly; left, ended, get, gamma of the stream. -/
import Derived.Test.YtlnlffmlficjnaaLl
import Derived.Test.YtlnlffmlficjnaaBj
import Derived.Deep.RegionHeld3
namespace Go.Proofs.Ytlnlffmlficjnaa
open Go.RowKit
set_option linter.unusedVariables false
attribute [local go_sem ↓] Go.wp_at_zero Go.wp_at_succ

/-- The bits are all spent but for zeros. -/
def endF (D : List Int) (a : Nat) : Prop := 8 * D.length ≤ a + 7 ∧ num (cut D a (8 * D.length - a)) = 0
instance (D : List Int) (a : Nat) : Decidable (endF D a) := by unfold endF; infer_instance
def getF (D : List Int) (a n : Nat) : Int × Int := if 8 * D.length < a + n then (9, 0) else (0, num (cut D a n))
/-- A gamma code that is at most so great: error, number, place. -/
def gmF (D : List Int) (a : Nat) (most : Int) : Int × Int × Int :=
  ((if (rgF D (8 * D.length : Nat) a).1 = 0 ∧ most < (rgF D (8 * D.length : Nat) a).2.1 then 2 else (rgF D (8 * D.length : Nat) a).1), (rgF D (8 * D.length : Nat) a).2.1, (rgF D (8 * D.length : Nat) a).2.2)
theorem wf_whole {D : List Int} (hb : Bytes D) : WF D (8 * D.length) := ⟨hb, by omega, fun i h1 h2 => absurd h1 (by omega)⟩
theorem rdF_get {D : List Int} (hb : Bytes D) (hl : D.length ≤ 65536) (a n : Nat) (hn : n ≤ 32) : rdF D ((8 * D.length : Nat) : Int) (a : Int) (n : Int) = getF D a n := by
  unfold rdF getF
  rw [if_neg (by rw [wf_chkb (wf_whole hb) (by omega)]; decide), if_neg (by omega)]
  by_cases h : 8 * D.length < a + n
  · rw [if_pos (by omega), if_pos h]
  · rw [if_neg (by omega), if_neg h]; rfl
theorem rgF_bd {D : List Int} (hb : Bytes D) (hl : D.length ≤ 65536) (a : Nat) : 0 ≤ (rgF D ((8 * D.length : Nat) : Int) a).2.1 ∧ (rgF D ((8 * D.length : Nat) : Int) a).2.1 ≤ 4294967295 ∧ ((rgF D ((8 * D.length : Nat) : Int) a).1 = 0 → (a : Int) < (rgF D ((8 * D.length : Nat) : Int) a).2.2 ∧ (rgF D ((8 * D.length : Nat) : Int) a).2.2 ≤ ((8 * D.length : Nat) : Int)) := by
  unfold rgF
  rw [if_neg (by rw [wf_chkb (wf_whole hb) (by omega)]; decide), if_neg (by omega)]
  split
  · exact ⟨by decide, by decide, fun h => absurd h (by decide)⟩
  · split
    · exact ⟨by decide, by decide, fun h => absurd h (by decide)⟩
    · split
      · exact ⟨by decide, by decide, fun h => absurd h (by decide)⟩
      · next h1 h2 h3 =>
        have := cut_num_bd D ((a : Int).toNat + zr D (a : Int).toNat (((8 * D.length : Nat) : Int).toNat - (a : Int).toNat)) (zr D (a : Int).toNat (((8 * D.length : Nat) : Int).toNat - (a : Int).toNat) + 1) (by omega)
        refine ⟨this.1, this.2, fun _ => ?_⟩
        simp only
        omega

set_option maxHeartbeats 1000000 in
theorem left_any (p : Nat) (c a : Int) (hc0 : 0 ≤ c) (hc1 : c ≤ 1000000) (ha0 : 0 ≤ a) (ha1 : a ≤ 1000000) (w : World) (k1 : w.cell? ⟨p, 1, none⟩ = some (.int .i64 c)) (k2 : w.cell? ⟨p, 2, none⟩ = some (.int .i64 a)) :
    Calls Try.prog 47 #[.pointer (some ⟨p, 0, none⟩)] w fun x w' => x = .returned (.int .i64 (c - a)) ∧ Ext w w' := by
  go_enter Try.func47, Try.ntmps47
  go_wp2_with fail
  go_quiet (fail)
  go_wp2_with fail
  go_ret
  exact ⟨rfl, (Ext.refl _).drewN _⟩

/-- A stream that is read. -/
structure Rstm (w : World) (p : Nat) (v : Value) (D : List Int) (a : Nat) : Prop where
  blk : Blk w p 59 [v, .int .i64 ((8 * D.length : Nat) : Int), .int .i64 (a : Int)]
  rd : Rd8 w v D

set_option maxHeartbeats 2000000 in
theorem ended_any (p : Nat) (v : Value) (D : List Int) (a : Nat) (hb : Bytes D) (hl : D.length ≤ 65536) (ha : a ≤ 8 * D.length) (w : World) (h : Rstm w p v D a) :
    Calls Try.prog 38 #[.pointer (some ⟨p, 0, none⟩)] w fun x w' => x = .returned (.bool (decide (endF D a))) ∧ Ext w w' := by
  obtain ⟨ad, cap, rfl, q1, q2, q3⟩ := Rd.shape h.rd
  have hR := h.rd
  have k0 := h.blk.cell 0 _ rfl
  have k1 := h.blk.cell 1 _ rfl
  have k2 := h.blk.cell 2 _ rfl
  have hget := rdF_get hb hl a (8 * D.length - a)
  obtain ⟨c, hc⟩ : ∃ c, 8 * D.length = c := ⟨_, rfl⟩
  have hEx : endF D a ↔ c ≤ a + 7 ∧ num (cut D a (c - a)) = 0 := by unfold endF; rw [hc]
  have hrd := fun W (hW : Rd8 W (.slice ad D.length cap) D) => read_any (.slice ad D.length cap) D (c : Int) (a : Int) ((c : Int) - (a : Int)) hb (by omega) (by omega) (by omega) W hW
  rw [hc] at k1 hget
  have hL := fun W h1 h2 => left_any p (c : Int) (a : Int) (by omega) (by omega) (by omega) (by omega) W h1 h2
  obtain ⟨m, hm⟩ : ∃ m, D.length = m := ⟨_, rfl⟩
  have hc8 : c ≤ 524288 := by omega
  rw [hc] at ha
  rw [hm] at hrd q1 k0 hR
  replace hrd := hidden hrd
  replace hL := hidden hL
  replace hR := hidden hR
  clear h
  by_cases hlt : c ≤ a + 7
  · have hget := hget (by omega)
    have hcut := num_bd (cut_01 D a (c - a))
    obtain ⟨N, hN⟩ : ∃ N, num (cut D a (c - a)) = N := ⟨_, rfl⟩
    rw [hN] at hcut hEx
    have hgv : getF D a (c - a) = (0, N) := by unfold getF; rw [if_neg (by omega), hN]
    rw [hgv, show ((c - a : Nat) : Int) = (c : Int) - (a : Int) by omega] at hget
    have hrd2 := hrd.out
    rw [hget] at hrd2
    replace hrd2 := hidden hrd2
    have hg7 : ¬ 7 < (c : Int) - (a : Int) := by omega
    have hr : Hid (decide (endF D a) = (N == 0)) := hidden (by rw [Bool.eq_iff_iff]; simp [hEx, hlt])
    replace hcut := hidden hcut
    clear hEx hget hgv hN hc hm hlt
    go_enter Try.func38, Try.ntmps38
    go_wp2_with fail
    refine (hL.out _ k1 k2).mono ?_
    rintro e w1 ⟨rfl, g1⟩
    have r0 := g1.cell k0
    have r1 := g1.cell k1
    have r2 := g1.cell k2
    have hR1 := hidden (Rd.ext hR.out g1)
    have hgX := hidden g1
    clear k0 k1 k2
    go_upto_region 3 with fail
    go_region_held3 (fun w' => w'.cell? ⟨p, 0, none⟩ = some (.slice ad m cap) ∧ w'.cell? ⟨p, 1, none⟩ = some (.int .i64 (c : Int)) ∧ w'.cell? ⟨p, 2, none⟩ = some (.int .i64 (a : Int))) (go_keep)
      (first | (go_at_call 47; refine (hL.out _ (by first | exact j1 | exact r1) (by first | exact j2 | exact r2)).mono ?_; rintro e w5 ⟨rfl, g5⟩; have gX : Ext w1 w5 := (by first | exact Ext.trans gX g5 | exact g5.past_drew | exact g5); have j0 := gX.cell r0; have j1 := gX.cell r1; have j2 := gX.cell r2) | (go_at_call 48; refine (hrd2.out _ (by first | exact Rd.ext hR1.out gX | exact Rd.drew hR1.out)).mono ?_; rintro e w5 ⟨rfl, g5⟩; have gX : Ext w1 w5 := (by first | exact Ext.trans gX g5 | exact g5.past_drew | exact g5); have j0 := gX.cell r0; have j1 := gX.cell r1; have j2 := gX.cell r2))
    by_cases hN0 : N = 0
    · subst hN0
      go_wp2_with fail
      go_ret
      exact ⟨ret_bool (by rw [hr.out]; rfl), hgX.out.trans gX⟩
    · have hN1 : (N == 0) = false := by simp [hN0]
      go_wp2_with fail
      go_ret
      exact ⟨ret_bool (by rw [hr.out, hN1]), hgX.out.trans gX⟩
  · have hg7 : 7 < (c : Int) - (a : Int) := by omega
    have hr : Hid (decide (endF D a) = false) := hidden (by simp [hEx, hlt])
    clear hEx hget hc hm hlt
    go_enter Try.func38, Try.ntmps38
    go_wp2_with fail
    refine (hL.out _ k1 k2).mono ?_
    rintro e w1 ⟨rfl, g1⟩
    go_wp2_with fail
    go_ret
    exact ⟨ret_bool hr.out.symm, g1⟩
end Go.Proofs.Ytlnlffmlficjnaa
