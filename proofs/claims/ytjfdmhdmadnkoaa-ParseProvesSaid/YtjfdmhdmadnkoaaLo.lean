/- Layer 35: reading of tokens, plainly; left, ended, get, gamma of the stream. -/
import Derived.Test.YtjfdmhdmadnkoaaLl
import Derived.Test.YtjfdmhdmadnkoaaBj
import Derived.Deep.RegionHeld3
namespace Go.Proofs.Ytjfdmhdmadnkoaa
open Go.RowKit
set_option linter.unusedVariables false
attribute [local go_sem ↓] Go.wp_at_zero Go.wp_at_succ

/-- The bits are all spent but for zeros. -/
def endF (D : List Int) (a : Nat) : Prop := 8 * D.length ≤ a + 7 ∧ num (cut D a (8 * D.length - a)) = 0
instance (D : List Int) (a : Nat) : Decidable (endF D a) := by unfold endF; infer_instance
def getF (D : List Int) (a n : Nat) : Int × Int := if 8 * D.length < a + n then (9, 0) else (0, num (cut D a n))
/-- A gamma code that is at most so great: error, number, place. -/
def gmF (D : List Int) (a : Nat) (most : Int) : Int × Int × Int :=
  ((if (rgF D (8 * D.length : Nat) a).1 = 0 ∧ most < (rgF D (8 * D.length : Nat) a).2.1 then 2 else (rgF D (8 * D.length : Nat) a).1), (rgF D (8 * D.length : Nat) a).2.1, (rgF D (8 * D.length : Nat) a).2.2)
theorem wf_whole {D : List Int} (hb : Bytes D) : WF D (8 * D.length) := ⟨hb, by omega, fun i h1 h2 => absurd h1 (by omega)⟩
theorem rdF_get {D : List Int} (hb : Bytes D) (hl : D.length ≤ 65536) (a n : Nat) (hn : n ≤ 32) : rdF D ((8 * D.length : Nat) : Int) (a : Int) (n : Int) = getF D a n := by
  unfold rdF getF
  rw [if_neg (by rw [wf_chkb (wf_whole hb) (by omega)]; decide), if_neg (by omega)]
  by_cases h : 8 * D.length < a + n
  · rw [if_pos (by omega), if_pos h]
  · rw [if_neg (by omega), if_neg h]; rfl
theorem rgF_bd {D : List Int} (hb : Bytes D) (hl : D.length ≤ 65536) (a : Nat) : 0 ≤ (rgF D ((8 * D.length : Nat) : Int) a).2.1 ∧ (rgF D ((8 * D.length : Nat) : Int) a).2.1 ≤ 4294967295 ∧ ((rgF D ((8 * D.length : Nat) : Int) a).1 = 0 → (a : Int) < (rgF D ((8 * D.length : Nat) : Int) a).2.2 ∧ (rgF D ((8 * D.length : Nat) : Int) a).2.2 ≤ ((8 * D.length : Nat) : Int)) := by
  unfold rgF
  rw [if_neg (by rw [wf_chkb (wf_whole hb) (by omega)]; decide), if_neg (by omega)]
  split
  · exact ⟨by decide, by decide, fun h => absurd h (by decide)⟩
  · split
    · exact ⟨by decide, by decide, fun h => absurd h (by decide)⟩
    · split
      · exact ⟨by decide, by decide, fun h => absurd h (by decide)⟩
      · next h1 h2 h3 =>
        have := cut_num_bd D ((a : Int).toNat + zr D (a : Int).toNat (((8 * D.length : Nat) : Int).toNat - (a : Int).toNat)) (zr D (a : Int).toNat (((8 * D.length : Nat) : Int).toNat - (a : Int).toNat) + 1) (by omega)
        refine ⟨this.1, this.2, fun _ => ?_⟩
        simp only
        omega

set_option maxHeartbeats 1000000 in
theorem left_any (p : Nat) (c a : Int) (hc0 : 0 ≤ c) (hc1 : c ≤ 1000000) (ha0 : 0 ≤ a) (ha1 : a ≤ 1000000) (w : World) (k1 : w.cell? ⟨p, 1, none⟩ = some (.int .i64 c)) (k2 : w.cell? ⟨p, 2, none⟩ = some (.int .i64 a)) :
    Calls Try.prog 67 #[.pointer (some ⟨p, 0, none⟩)] w fun x w' => x = .returned (.int .i64 (c - a)) ∧ Ext w w' := by
  go_enter Try.func67, Try.ntmps67
  go_wp2_with fail
  go_quiet (fail)
  go_wp2_with fail
  go_ret
  exact ⟨rfl, (Ext.refl _).drewN _⟩

/-- A stream that is read. -/
structure Rstm (w : World) (p : Nat) (v : Value) (D : List Int) (a : Nat) : Prop where
  blk : Blk w p 93 [v, .int .i64 ((8 * D.length : Nat) : Int), .int .i64 (a : Int)]
  rd : Rd8 w v D

set_option maxHeartbeats 2000000 in
theorem ended_any (p : Nat) (v : Value) (D : List Int) (a : Nat) (hb : Bytes D) (hl : D.length ≤ 65536) (ha : a ≤ 8 * D.length) (w : World) (h : Rstm w p v D a) :
    Calls Try.prog 61 #[.pointer (some ⟨p, 0, none⟩)] w fun x w' => x = .returned (.bool (decide (endF D a))) ∧ Ext w w' := by
  obtain ⟨ad, cap, rfl, q1, q2, q3⟩ := Rd.shape h.rd
  have hR := h.rd
  have k0 := h.blk.cell 0 _ rfl
  have k1 := h.blk.cell 1 _ rfl
  have k2 := h.blk.cell 2 _ rfl
  have hget := rdF_get hb hl a (8 * D.length - a)
  obtain ⟨c, hc⟩ : ∃ c, 8 * D.length = c := ⟨_, rfl⟩
  have hEx : endF D a ↔ c ≤ a + 7 ∧ num (cut D a (c - a)) = 0 := by unfold endF; rw [hc]
  have hrd := fun W (hW : Rd8 W (.slice ad D.length cap) D) => read_any (.slice ad D.length cap) D (c : Int) (a : Int) ((c : Int) - (a : Int)) hb (by omega) (by omega) (by omega) W hW
  rw [hc] at k1 hget
  have hL := fun W h1 h2 => left_any p (c : Int) (a : Int) (by omega) (by omega) (by omega) (by omega) W h1 h2
  obtain ⟨m, hm⟩ : ∃ m, D.length = m := ⟨_, rfl⟩
  have hc8 : c ≤ 524288 := by omega
  rw [hc] at ha
  rw [hm] at hrd q1 k0 hR
  replace hrd := hidden hrd
  replace hL := hidden hL
  replace hR := hidden hR
  clear h
  by_cases hlt : c ≤ a + 7
  · have hget := hget (by omega)
    have hcut := num_bd (cut_01 D a (c - a))
    obtain ⟨N, hN⟩ : ∃ N, num (cut D a (c - a)) = N := ⟨_, rfl⟩
    rw [hN] at hcut hEx
    have hgv : getF D a (c - a) = (0, N) := by unfold getF; rw [if_neg (by omega), hN]
    rw [hgv, show ((c - a : Nat) : Int) = (c : Int) - (a : Int) by omega] at hget
    have hrd2 := hrd.out
    rw [hget] at hrd2
    replace hrd2 := hidden hrd2
    have hg7 : ¬ 7 < (c : Int) - (a : Int) := by omega
    have hr : Hid (decide (endF D a) = (N == 0)) := hidden (by rw [Bool.eq_iff_iff]; simp [hEx, hlt])
    replace hcut := hidden hcut
    clear hEx hget hgv hN hc hm hlt
    go_enter Try.func61, Try.ntmps61
    go_wp2_with fail
    refine (hL.out _ k1 k2).mono ?_
    rintro e w1 ⟨rfl, g1⟩
    have r0 := g1.cell k0
    have r1 := g1.cell k1
    have r2 := g1.cell k2
    have hR1 := hidden (Rd.ext hR.out g1)
    have hgX := hidden g1
    clear k0 k1 k2
    go_upto_region 3 with fail
    go_region_held3 (fun w' => w'.cell? ⟨p, 0, none⟩ = some (.slice ad m cap) ∧ w'.cell? ⟨p, 1, none⟩ = some (.int .i64 (c : Int)) ∧ w'.cell? ⟨p, 2, none⟩ = some (.int .i64 (a : Int))) (go_keep)
      (first | (go_at_call 67; refine (hL.out _ (by first | exact j1 | exact r1) (by first | exact j2 | exact r2)).mono ?_; rintro e w5 ⟨rfl, g5⟩; have gX : Ext w1 w5 := (by first | exact Ext.trans gX g5 | exact g5.past_drew | exact g5); have j0 := gX.cell r0; have j1 := gX.cell r1; have j2 := gX.cell r2) | (go_at_call 68; refine (hrd2.out _ (by first | exact Rd.ext hR1.out gX | exact Rd.drew hR1.out)).mono ?_; rintro e w5 ⟨rfl, g5⟩; have gX : Ext w1 w5 := (by first | exact Ext.trans gX g5 | exact g5.past_drew | exact g5); have j0 := gX.cell r0; have j1 := gX.cell r1; have j2 := gX.cell r2))
    by_cases hN0 : N = 0
    · subst hN0
      go_wp2_with fail
      go_ret
      exact ⟨ret_bool (by rw [hr.out]; rfl), hgX.out.trans gX⟩
    · have hN1 : (N == 0) = false := by simp [hN0]
      go_wp2_with fail
      go_ret
      exact ⟨ret_bool (by rw [hr.out, hN1]), hgX.out.trans gX⟩
  · have hg7 : 7 < (c : Int) - (a : Int) := by omega
    have hr : Hid (decide (endF D a) = false) := hidden (by simp [hEx, hlt])
    clear hEx hget hc hm hlt
    go_enter Try.func61, Try.ntmps61
    go_wp2_with fail
    refine (hL.out _ k1 k2).mono ?_
    rintro e w1 ⟨rfl, g1⟩
    go_wp2_with fail
    go_ret
    exact ⟨ret_bool hr.out.symm, g1⟩
end Go.Proofs.Ytjfdmhdmadnkoaa

/- Layer 35: get, gamma, next of the stream. -/
namespace Go.Proofs.Ytjfdmhdmadnkoaa
open Go.RowKit
set_option linter.unusedVariables false
attribute [local go_sem ↓] Go.wp_at_zero Go.wp_at_succ

/-- What a reading call leaves: the stream at another place, nothing else written. -/
def StepP (p : Nat) (v : Value) (D : List Int) (a : Int) (w w' : World) : Prop :=
  Blk w' p 93 [v, .int .i64 ((8 * D.length : Nat) : Int), .int .i64 a] ∧ Chg [p] w w'
theorem blk_of_cells3 : True := trivial

set_option maxHeartbeats 2000000 in
theorem get_stream (p : Nat) (v : Value) (D : List Int) (a n : Nat) (hb : Bytes D) (hl : D.length ≤ 65536) (ha : a ≤ 8 * D.length) (hn : n ≤ 8) (w : World) (h : Rstm w p v D a) :
    Calls Try.prog 69 #[.pointer (some ⟨p, 0, none⟩), .int .i64 (n : Int)] w fun x w' => x = .returned (.tuple #[.int .i64 (getF D a n).2, .int .i64 (getF D a n).1]) ∧ StepP p v D ((a : Int) + (n : Int)) w w' := by
  obtain ⟨ad, cap, rfl, q1, q2, q3⟩ := Rd.shape h.rd
  have hR := h.rd
  have hB := h.blk
  have hget := rdF_get hb hl a n (by omega)
  have hrd := fun W (hW : Rd8 W (.slice ad D.length cap) D) => read_any (.slice ad D.length cap) D ((8 * D.length : Nat) : Int) (a : Int) (n : Int) hb (by omega) (by omega) (by omega) W hW
  rw [hget] at hrd
  have hbd : 0 ≤ (getF D a n).2 ∧ (getF D a n).2 ≤ 4294967295 := by
    unfold getF
    split
    · exact ⟨by decide, by decide⟩
    · exact cut_num_bd D a n (by omega)
  obtain ⟨e0, y, hey⟩ : ∃ e y, getF D a n = (e, y) := ⟨_, _, rfl⟩
  rw [hey] at hrd hbd ⊢
  simp only at hbd
  obtain ⟨b0, b1⟩ := hbd
  unfold StepP
  obtain ⟨c, hc⟩ : ∃ c, 8 * D.length = c := ⟨_, rfl⟩
  rw [hc] at hB hrd ⊢
  obtain ⟨m, hm⟩ : ∃ m, D.length = m := ⟨_, rfl⟩
  have hc8 : c ≤ 524288 := by omega
  rw [hc] at ha
  rw [hm] at hrd q1 hR hB ⊢
  have r0 := hB.cell 0 _ rfl
  have r1 := hB.cell 1 _ rfl
  have r2 := hB.cell 2 _ rfl
  have hpl := hB.lt
  replace hrd := hidden hrd
  replace hR := hidden hR
  replace hB := hidden hB
  clear h hget hey hc hm
  go_enter Try.func69, Try.ntmps69
  go_upto_region 1 with fail
  go_region_held3 (fun w' => w'.cell? ⟨p, 0, none⟩ = some (.slice ad m cap) ∧ w'.cell? ⟨p, 1, none⟩ = some (.int .i64 (c : Int)) ∧ w'.cell? ⟨p, 2, none⟩ = some (.int .i64 (a : Int))) (go_keep)
    (first | (go_at_call 68; refine (hrd.out _ (by first | exact Rd.drew hR.out | exact hR.out)).mono ?_; rintro e w5 ⟨rfl, g5⟩; have gX : Ext w w5 := (by first | exact g5.past_drew | exact g5); have j0 := gX.cell r0; have j1 := gX.cell r1; have j2 := gX.cell r2))
  have hB5 := hB.out.ext gX
  have j3 := hB5.frozen 2
  replace hB5 := hidden hB5
  go_wp2_with fail
  go_ret2
  exact ⟨rfl, hB5.out.set 2 _, (Chg.of_ext [p] gX).setCell (p := ⟨p, 2, none⟩) (Or.inl (by simp)) _⟩

set_option maxHeartbeats 2000000 in
theorem gamma_stream (p : Nat) (v : Value) (D : List Int) (a : Nat) (most : Int) (hb : Bytes D) (hl : D.length ≤ 65536) (ha : a ≤ 8 * D.length) (hm0 : 0 ≤ most) (hm1 : most ≤ 4096) (w : World) (h : Rstm w p v D a) :
    Calls Try.prog 70 #[.pointer (some ⟨p, 0, none⟩), .int .i64 most] w fun x w' => x = .returned (.tuple #[.int .i64 (gmF D a most).2.1, .int .i64 (gmF D a most).1]) ∧ StepP p v D (gmF D a most).2.2 w w' := by
  obtain ⟨ad, cap, rfl, q1, q2, q3⟩ := Rd.shape h.rd
  have hR := h.rd
  have hB := h.blk
  have hrd := fun W (hW : Rd8 W (.slice ad D.length cap) D) => rgamma_any (.slice ad D.length cap) D ((8 * D.length : Nat) : Int) (a : Int) hb (by omega) (by omega) (by omega) (by omega) W hW
  have hbd := rgF_bd hb hl a
  unfold gmF
  obtain ⟨e0, y, z, hey⟩ : ∃ e y z, rgF D ((8 * D.length : Nat) : Int) (a : Int) = (e, y, z) := ⟨_, _, _, rfl⟩
  rw [hey] at hrd hbd ⊢
  simp only at hbd ⊢
  obtain ⟨b0, b1, -⟩ := hbd
  unfold StepP
  obtain ⟨c, hc⟩ : ∃ c, 8 * D.length = c := ⟨_, rfl⟩
  rw [hc] at hB hrd ⊢
  obtain ⟨m, hm⟩ : ∃ m, D.length = m := ⟨_, rfl⟩
  have hc8 : c ≤ 524288 := by omega
  rw [hc] at ha
  rw [hm] at hrd q1 hR hB ⊢
  have r0 := hB.cell 0 _ rfl
  have r1 := hB.cell 1 _ rfl
  have r2 := hB.cell 2 _ rfl
  have hpl := hB.lt
  replace hrd := hidden hrd
  replace hR := hidden hR
  replace hB := hidden hB
  clear h hey hc hm
  have fin : ∀ (E : Int), (if e0 = 0 ∧ most < y then 2 else e0) = E → Hid ((if e0 = 0 ∧ most < y then 2 else e0) = E) := fun E h => h
  by_cases he : e0 = 0
  · subst he
    by_cases hmy : most < y
    · rw [if_pos ⟨rfl, hmy⟩]
      clear fin
      go_enter Try.func70, Try.ntmps70
      go_upto_region 1 with fail
      go_region_held3 (fun w' => w'.cell? ⟨p, 0, none⟩ = some (.slice ad m cap) ∧ w'.cell? ⟨p, 1, none⟩ = some (.int .i64 (c : Int)) ∧ w'.cell? ⟨p, 2, none⟩ = some (.int .i64 (a : Int))) (go_keep)
        (first | (go_at_call 75; refine (hrd.out _ (by first | exact Rd.drew hR.out | exact hR.out)).mono ?_; rintro e w5 ⟨rfl, g5⟩; have gX : Ext w w5 := (by first | exact g5.past_drew | exact g5); have j0 := gX.cell r0; have j1 := gX.cell r1; have j2 := gX.cell r2))
      have hB5 := hB.out.ext gX
      have j3 := hB5.frozen 2
      replace hB5 := hidden hB5
      go_wp2_with fail
      go_ret2
      exact ⟨rfl, hB5.out.set 2 _, (Chg.of_ext [p] gX).setCell (p := ⟨p, 2, none⟩) (Or.inl (by simp)) _⟩
    · rw [if_neg (fun h => hmy h.2)]
      clear fin
      go_enter Try.func70, Try.ntmps70
      go_upto_region 1 with fail
      go_region_held3 (fun w' => w'.cell? ⟨p, 0, none⟩ = some (.slice ad m cap) ∧ w'.cell? ⟨p, 1, none⟩ = some (.int .i64 (c : Int)) ∧ w'.cell? ⟨p, 2, none⟩ = some (.int .i64 (a : Int))) (go_keep)
        (first | (go_at_call 75; refine (hrd.out _ (by first | exact Rd.drew hR.out | exact hR.out)).mono ?_; rintro e w5 ⟨rfl, g5⟩; have gX : Ext w w5 := (by first | exact g5.past_drew | exact g5); have j0 := gX.cell r0; have j1 := gX.cell r1; have j2 := gX.cell r2))
      have hB5 := hB.out.ext gX
      have j3 := hB5.frozen 2
      replace hB5 := hidden hB5
      go_wp2_with fail
      go_ret2
      exact ⟨rfl, hB5.out.set 2 _, (Chg.of_ext [p] gX).setCell (p := ⟨p, 2, none⟩) (Or.inl (by simp)) _⟩
  · have he1 : (e0 == 0) = false := by simp [he]
    rw [if_neg (fun h => he h.1)]
    clear fin
    go_enter Try.func70, Try.ntmps70
    go_upto_region 1 with fail
    go_region_held3 (fun w' => w'.cell? ⟨p, 0, none⟩ = some (.slice ad m cap) ∧ w'.cell? ⟨p, 1, none⟩ = some (.int .i64 (c : Int)) ∧ w'.cell? ⟨p, 2, none⟩ = some (.int .i64 (a : Int))) (go_keep)
      (first | (go_at_call 75; refine (hrd.out _ (by first | exact Rd.drew hR.out | exact hR.out)).mono ?_; rintro e w5 ⟨rfl, g5⟩; have gX : Ext w w5 := (by first | exact g5.past_drew | exact g5); have j0 := gX.cell r0; have j1 := gX.cell r1; have j2 := gX.cell r2))
    have hB5 := hB.out.ext gX
    have j3 := hB5.frozen 2
    replace hB5 := hidden hB5
    go_wp2_with fail
    go_ret2
    exact ⟨rfl, hB5.out.set 2 _, (Chg.of_ext [p] gX).setCell (p := ⟨p, 2, none⟩) (Or.inl (by simp)) _⟩
end Go.Proofs.Ytjfdmhdmadnkoaa

/- Layer 35: next of the stream. -/
namespace Go.Proofs.Ytjfdmhdmadnkoaa
open Go.RowKit
set_option linter.unusedVariables false
attribute [local go_sem ↓] Go.wp_at_zero Go.wp_at_succ

/-- A token that is read at a place: error, token, place behind it. -/
def nxF (D : List Int) (a : Nat) : Int × (Int × Int × Int) × Int :=
  if (getF D a 1).1 ≠ 0 then ((getF D a 1).1, (0, 0, 0), (a : Int) + 1)
  else if (getF D a 1).2 = 0 then ((getF D (a + 1) 8).1, (0, 0, (getF D (a + 1) 8).2), (a : Int) + 9)
  else if (gmF D (a + 1) 254).1 ≠ 0 then ((gmF D (a + 1) 254).1, (0, 0, 0), (gmF D (a + 1) 254).2.2)
  else ((gmF D (gmF D (a + 1) 254).2.2.toNat 4096).1, ((gmF D (a + 1) 254).2.1 + 1, (gmF D (gmF D (a + 1) 254).2.2.toNat 4096).2.1, 0), (gmF D (gmF D (a + 1) 254).2.2.toNat 4096).2.2)
theorem getF_ok {D : List Int} {a n : Nat} (h : (getF D a n).1 = 0) : a + n ≤ 8 * D.length ∧ (getF D a n).2 = num (cut D a n) := by
  unfold getF at h ⊢
  split at h
  · cases h
  · next h1 => rw [if_neg h1]; exact ⟨by omega, rfl⟩
theorem getF_bd (D : List Int) (a n : Nat) : 0 ≤ (getF D a n).2 ∧ (getF D a n).2 < 2 ^ n := by
  have hp := pow2_pos n
  unfold getF
  split
  · exact ⟨by decide, hp⟩
  · have := num_bd (cut_01 D a n)
    rw [cut_len] at this
    exact this
theorem gmF_ok {D : List Int} (hb : Bytes D) (hl : D.length ≤ 65536) {a : Nat} {most : Int} (h : (gmF D a most).1 = 0) : (rgF D ((8 * D.length : Nat) : Int) a).1 = 0 ∧ (gmF D a most).2.1 ≤ most ∧ (a : Int) < (gmF D a most).2.2 ∧ (gmF D a most).2.2 ≤ ((8 * D.length : Nat) : Int) := by
  have hbd := rgF_bd hb hl a
  unfold gmF at h ⊢
  simp only at h ⊢
  by_cases h1 : (rgF D ((8 * D.length : Nat) : Int) a).1 = 0 ∧ most < (rgF D ((8 * D.length : Nat) : Int) a).2.1
  · rw [if_pos h1] at h; cases h
  · rw [if_neg h1] at h
    obtain ⟨h3, h4⟩ := hbd.2.2 h
    refine ⟨h, ?_, h3, h4⟩
    rcases Int.lt_or_le most (rgF D ((8 * D.length : Nat) : Int) a).2.1 with h5 | h5
    · exact absurd ⟨h, h5⟩ h1
    · exact h5
theorem Rstm.off {w : World} {p a : Nat} {v : Value} {D : List Int} (h : Rstm w p v D a) : 0 < D.length → v.ownBlock ≠ some p :=
  Rd8.off_any h.rd h.blk (fun u hu n => by
    obtain ⟨ad, cap, rfl, -⟩ := Rd.shape h.rd
    simp only [List.mem_cons, List.not_mem_nil, or_false] at hu
    rcases hu with rfl | rfl | rfl <;> intro e <;> cases e)
theorem Rstm.moved {w w' : World} {p a : Nat} {v : Value} {D : List Int} (h : Rstm w p v D a) (k : Ext w w') : Rstm w' p v D a := ⟨h.blk.ext k, Rd.ext h.rd k⟩
theorem Rstm.step {w w' : World} {p a b : Nat} {v : Value} {D : List Int} {a' : Int} (h : Rstm w p v D a) (k : StepP p v D a' w w') (hb : a' = (b : Int)) : Rstm w' p v D b := by
  subst hb
  exact ⟨k.1, Rd.chg h.rd k.2 (fun x hx hl => by simp at hx; subst hx; exact h.off hl)⟩

/-- What next leaves. -/
def NextP (p : Nat) (v : Value) (D : List Int) (r : Int × (Int × Int × Int) × Int) (w : World) (x : Ending) (w' : World) : Prop :=
  x = .returned (.tuple #[tkv r.2.1, .int .i64 r.1]) ∧ StepP p v D r.2.2 w w'

set_option maxHeartbeats 2000000 in
theorem next_any (p : Nat) (v : Value) (D : List Int) (a : Nat) (hb : Bytes D) (hl : D.length ≤ 65536) (ha : a ≤ 8 * D.length) (w : World) (h : Rstm w p v D a) :
    Calls Try.prog 62 #[.pointer (some ⟨p, 0, none⟩)] w (NextP p v D (nxF D a) w) := by
  have hpl := h.blk.lt
  have S0 := h.moved ((Ext.refl w).alloc (.cells #[.int .i64 0, .int .i64 0, .int .u8 0] 60))
  have Z0 := Blk.new w [.int .i64 0, .int .i64 0, .int .u8 0] 60
  have hN : Hid (nxF D a = nxF D a) := rfl
  have hnx : ∀ r, nxF D a = r → Hid (nxF D a = r) := fun r h => h
  have G1 := get_stream p v D a 1 hb hl ha (by omega)
  have hok1 : (getF D a 1).1 = 0 → a + 1 ≤ 8 * D.length := fun e => (getF_ok e).1
  have hN1 : (getF D a 1).1 ≠ 0 → nxF D a = ((getF D a 1).1, (0, 0, 0), (a : Int) + 1) := fun e => by unfold nxF; rw [if_pos e]
  have hN2 : (getF D a 1).1 = 0 → (getF D a 1).2 = 0 → nxF D a = ((getF D (a + 1) 8).1, (0, 0, (getF D (a + 1) 8).2), (a : Int) + 9) := fun e e2 => by unfold nxF; rw [if_neg (by simp [e]), if_pos e2]
  have hN3 : (getF D a 1).1 = 0 → (getF D a 1).2 ≠ 0 → (gmF D (a + 1) 254).1 ≠ 0 → nxF D a = ((gmF D (a + 1) 254).1, (0, 0, 0), (gmF D (a + 1) 254).2.2) := fun e e2 e3 => by unfold nxF; rw [if_neg (by simp [e]), if_neg e2, if_pos e3]
  have hN4 : (getF D a 1).1 = 0 → (getF D a 1).2 ≠ 0 → (gmF D (a + 1) 254).1 = 0 → nxF D a = ((gmF D (gmF D (a + 1) 254).2.2.toNat 4096).1, ((gmF D (a + 1) 254).2.1 + 1, (gmF D (gmF D (a + 1) 254).2.2.toNat 4096).2.1, 0), (gmF D (gmF D (a + 1) 254).2.2.toNat 4096).2.2) := fun e e2 e3 => by unfold nxF; rw [if_neg (by simp [e]), if_neg e2, if_neg (by simp [e3])]
  have hy1 := getF_bd D a 1
  obtain ⟨e1, y1, he1⟩ : ∃ e y, getF D a 1 = (e, y) := ⟨_, _, rfl⟩
  rw [he1] at G1 hok1 hN1 hN2 hN3 hN4 hy1
  simp only at hok1 hN1 hN2 hN3 hN4 hy1
  replace G1 := hidden G1
  replace S0 := hidden S0
  replace Z0 := hidden Z0
  clear hN hnx he1 h
  by_cases k1 : e1 = 0
  · subst k1
    have hle := hok1 rfl
    by_cases k2 : y1 = 0
    · subst k2
      rw [hN2 rfl rfl]
      have G2 := get_stream p v D (a + 1) 8 hb hl hle (by omega)
      have hy2 := getF_bd D (a + 1) 8
      obtain ⟨e2, y2, he2⟩ : ∃ e y, getF D (a + 1) 8 = (e, y) := ⟨_, _, rfl⟩
      rw [he2] at G2 hy2 ⊢
      simp only at hy2
      obtain ⟨y20, y21⟩ := hy2
      replace G2 := hidden G2
      have y22 : y2 ≤ 255 := by omega
      clear hok1 hN1 hN2 hN3 hN4 hy1 he2 y21
      go_enter Try.func62, Try.ntmps62
      go_wp2_with fail
      refine (G1.out _ S0.out).mono ?_
      rintro e w1 ⟨rfl, P1⟩
      have S1 := S0.out.step P1 (b := a + 1) (by simp)
      have Z1 := Z0.out.chg P1.2 (by simp; omega)
      replace S1 := hidden S1
      replace Z1 := hidden Z1
      go_wp2_with fail
      refine (G2.out _ S1.out).mono ?_
      rintro e w2 ⟨rfl, P2⟩
      have Z2 := Z1.out.chg P2.2 (by simp; omega)
      have f0 := Z2.frozen 0
      have f1 := Z2.frozen 1
      have f2 := Z2.frozen 2
      have z0 := Z2.cell 0 _ rfl
      have z1 := Z2.cell 1 _ rfl
      have z2 := Z2.cell 2 _ rfl
      replace Z2 := hidden Z2
      go_wp2_with fail
      have Z3 := ((Z2.out.set 0 (.int .i64 0)).set 1 (.int .i64 0)).set 2 (.int .u8 y2)
      have q0 := Z3.cell 0 _ rfl
      have q1 := Z3.cell 1 _ rfl
      have q2 := Z3.cell 2 _ rfl
      refine bodyPost_ret (v := .tuple #[.agg #[.int .i64 0, .int .i64 0, .int .u8 y2], .int .i64 e2]) (by simp [results, Try.results62, go_sem, q0, q1, q2]) rfl ?_
      have hne : p ≠ w.heap.size := by omega
      refine ⟨rfl, ?_, ?_⟩
      · have hB := ((P2.1.set_other (i := 0) hne (.int .i64 0)).set_other (i := 1) hne (.int .i64 0)).set_other (i := 2) hne (.int .u8 y2)
        rw [show (((a + 1 : Nat) : Int)) + ((8 : Nat) : Int) = (a : Int) + 9 by omega] at hB
        exact hB
      · have hC := (((Chg.refl [p] w).alloc (.cells #[.int .i64 0, .int .i64 0, .int .u8 0] 60)).trans P1.2 (by simp)).trans P2.2 (by simp)
        exact ((hC.setCell (p := ⟨w.heap.size, 0, none⟩) (Or.inr (Nat.le_refl _)) _).setCell (p := ⟨w.heap.size, 1, none⟩) (Or.inr (Nat.le_refl _)) _).setCell (p := ⟨w.heap.size, 2, none⟩) (Or.inr (Nat.le_refl _)) _
    · have k3 : (y1 == 0) = false := by simp [k2]
      have G2 := gamma_stream p v D (a + 1) 254 hb hl hle (by omega) (by omega)
      have hgok := fun e => gmF_ok hb hl (a := a + 1) (most := 254) e
      replace hN3 := hN3 rfl k2
      replace hN4 := hN4 rfl k2
      have hy2b : 0 ≤ (gmF D (a + 1) 254).2.1 ∧ (gmF D (a + 1) 254).2.1 ≤ 4294967295 := ⟨(rgF_bd hb hl (a + 1)).1, (rgF_bd hb hl (a + 1)).2.1⟩
      obtain ⟨e2, y2, t2, he2⟩ : ∃ e y t, gmF D (a + 1) 254 = (e, y, t) := ⟨_, _, _, rfl⟩
      rw [he2] at G2 hgok hN3 hN4 hy2b
      simp only at hgok hN3 hN4 hy2b
      replace G2 := hidden G2
      obtain ⟨y20, y21⟩ := hy2b
      clear hok1 hN1 hN2 hy1 k2
      by_cases k4 : e2 = 0
      · subst k4
        obtain ⟨-, g1, g2, g3⟩ := hgok rfl
        rw [hN4 rfl]
        have ht2 : t2 = ((t2.toNat : Nat) : Int) := by omega
        have G3 := gamma_stream p v D t2.toNat 4096 hb hl (by omega) (by omega) (by omega)
        obtain ⟨e3, y3, t3, he3⟩ : ∃ e y t, gmF D t2.toNat 4096 = (e, y, t) := ⟨_, _, _, rfl⟩
        rw [he3] at G3 ⊢
        simp only
        replace G3 := hidden G3
        replace ht2 := hidden ht2
        clear hN3 hN4 hgok he2 he3 g2 g3
        go_enter Try.func62, Try.ntmps62
        go_wp2_with fail
        refine (G1.out _ S0.out).mono ?_
        rintro e w1 ⟨rfl, P1⟩
        have S1 := S0.out.step P1 (b := a + 1) (by simp)
        have Z1 := Z0.out.chg P1.2 (by simp; omega)
        replace S1 := hidden S1
        replace Z1 := hidden Z1
        go_wp2_with fail
        refine (G2.out _ S1.out).mono ?_
        rintro e w2 ⟨rfl, P2⟩
        have Z2 := Z1.out.chg P2.2 (by simp; omega)
        have S2 := S1.out.step P2 (b := t2.toNat) ht2.out
        replace S2 := hidden S2
        replace Z2 := hidden Z2
        go_wp2_with fail
        refine (G3.out _ S2.out).mono ?_
        rintro e w3 ⟨rfl, P3⟩
        have Z3 := Z2.out.chg P3.2 (by simp; omega)
        have f0 := Z3.frozen 0
        have f1 := Z3.frozen 1
        have f2 := Z3.frozen 2
        have z0 := Z3.cell 0 _ rfl
        have z1 := Z3.cell 1 _ rfl
        have z2 := Z3.cell 2 _ rfl
        replace Z3 := hidden Z3
        go_wp2_with fail
        have Z4 := ((Z3.out.set 0 (.int .i64 (y2 + 1))).set 1 (.int .i64 y3)).set 2 (.int .u8 0)
        have q0 := Z4.cell 0 _ rfl
        have q1 := Z4.cell 1 _ rfl
        have q2 := Z4.cell 2 _ rfl
        refine bodyPost_ret (v := .tuple #[.agg #[.int .i64 (y2 + 1), .int .i64 y3, .int .u8 0], .int .i64 e3]) (by simp [results, Try.results62, go_sem, q0, q1, q2]) rfl ?_
        have hne : p ≠ w.heap.size := by omega
        refine ⟨rfl, ?_, ?_⟩
        · exact ((P3.1.set_other (i := 0) hne (.int .i64 (y2 + 1))).set_other (i := 1) hne (.int .i64 y3)).set_other (i := 2) hne (.int .u8 0)
        · have hC := ((((Chg.refl [p] w).alloc (.cells #[.int .i64 0, .int .i64 0, .int .u8 0] 60)).trans P1.2 (by simp)).trans P2.2 (by simp)).trans P3.2 (by simp)
          exact ((hC.setCell (p := ⟨w.heap.size, 0, none⟩) (Or.inr (Nat.le_refl _)) _).setCell (p := ⟨w.heap.size, 1, none⟩) (Or.inr (Nat.le_refl _)) _).setCell (p := ⟨w.heap.size, 2, none⟩) (Or.inr (Nat.le_refl _)) _
      · have k5 : (e2 != 0) = true := by simp [k4]
        rw [hN3 k4]
        clear hN3 hN4 hgok he2 k4
        go_enter Try.func62, Try.ntmps62
        go_wp2_with fail
        refine (G1.out _ S0.out).mono ?_
        rintro e w1 ⟨rfl, P1⟩
        have S1 := S0.out.step P1 (b := a + 1) (by simp)
        have Z1 := Z0.out.chg P1.2 (by simp; omega)
        replace S1 := hidden S1
        replace Z1 := hidden Z1
        go_wp2_with fail
        refine (G2.out _ S1.out).mono ?_
        rintro e w2 ⟨rfl, P2⟩
        have Z2 := Z1.out.chg P2.2 (by simp; omega)
        have f0 := Z2.frozen 0
        have f1 := Z2.frozen 1
        have f2 := Z2.frozen 2
        have z0 := Z2.cell 0 _ rfl
        have z1 := Z2.cell 1 _ rfl
        have z2 := Z2.cell 2 _ rfl
        replace Z2 := hidden Z2
        go_wp2_with fail
        have Z3 := ((Z2.out.set 0 (.int .i64 0)).set 1 (.int .i64 0)).set 2 (.int .u8 0)
        have q0 := Z3.cell 0 _ rfl
        have q1 := Z3.cell 1 _ rfl
        have q2 := Z3.cell 2 _ rfl
        refine bodyPost_ret (v := .tuple #[.agg #[.int .i64 0, .int .i64 0, .int .u8 0], .int .i64 e2]) (by simp [results, Try.results62, go_sem, q0, q1, q2]) rfl ?_
        have hne : p ≠ w.heap.size := by omega
        refine ⟨rfl, ?_, ?_⟩
        · exact ((P2.1.set_other (i := 0) hne (.int .i64 0)).set_other (i := 1) hne (.int .i64 0)).set_other (i := 2) hne (.int .u8 0)
        · have hC := (((Chg.refl [p] w).alloc (.cells #[.int .i64 0, .int .i64 0, .int .u8 0] 60)).trans P1.2 (by simp)).trans P2.2 (by simp)
          exact ((hC.setCell (p := ⟨w.heap.size, 0, none⟩) (Or.inr (Nat.le_refl _)) _).setCell (p := ⟨w.heap.size, 1, none⟩) (Or.inr (Nat.le_refl _)) _).setCell (p := ⟨w.heap.size, 2, none⟩) (Or.inr (Nat.le_refl _)) _
  · have k2 : (e1 != 0) = true := by simp [k1]
    rw [hN1 k1]
    clear hok1 hN1 hN2 hN3 hN4 hy1 k1
    go_enter Try.func62, Try.ntmps62
    go_wp2_with fail
    refine (G1.out _ S0.out).mono ?_
    rintro e w1 ⟨rfl, P1⟩
    have Z1 := Z0.out.chg P1.2 (by simp; omega)
    have f0 := Z1.frozen 0
    have f1 := Z1.frozen 1
    have f2 := Z1.frozen 2
    have z0 := Z1.cell 0 _ rfl
    have z1 := Z1.cell 1 _ rfl
    have z2 := Z1.cell 2 _ rfl
    replace Z1 := hidden Z1
    go_wp2_with fail
    have Z3 := ((Z1.out.set 0 (.int .i64 0)).set 1 (.int .i64 0)).set 2 (.int .u8 0)
    have q0 := Z3.cell 0 _ rfl
    have q1 := Z3.cell 1 _ rfl
    have q2 := Z3.cell 2 _ rfl
    refine bodyPost_ret (v := .tuple #[.agg #[.int .i64 0, .int .i64 0, .int .u8 0], .int .i64 e1]) (by simp [results, Try.results62, go_sem, q0, q1, q2]) rfl ?_
    have hne : p ≠ w.heap.size := by omega
    refine ⟨rfl, ?_, ?_⟩
    · exact ((P1.1.set_other (i := 0) hne (.int .i64 0)).set_other (i := 1) hne (.int .i64 0)).set_other (i := 2) hne (.int .u8 0)
    · have hC := ((Chg.refl [p] w).alloc (.cells #[.int .i64 0, .int .i64 0, .int .u8 0] 60)).trans P1.2 (by simp)
      exact ((hC.setCell (p := ⟨w.heap.size, 0, none⟩) (Or.inr (Nat.le_refl _)) _).setCell (p := ⟨w.heap.size, 1, none⟩) (Or.inr (Nat.le_refl _)) _).setCell (p := ⟨w.heap.size, 2, none⟩) (Or.inr (Nat.le_refl _)) _
end Go.Proofs.Ytjfdmhdmadnkoaa
