/- Layer 35: get, gamma, next of the stream. -/
import Derived.Test.YtlnlffmlficjnaaLm
namespace Go.Proofs.Ytlnlffmlficjnaa
open Go.RowKit
set_option linter.unusedVariables false
attribute [local go_sem ↓] Go.wp_at_zero Go.wp_at_succ

/-- What a reading call leaves: the stream at another place, nothing else written. -/
def StepP (p : Nat) (v : Value) (D : List Int) (a : Int) (w w' : World) : Prop :=
  Blk w' p 59 [v, .int .i64 ((8 * D.length : Nat) : Int), .int .i64 a] ∧ Chg [p] w w'
theorem blk_of_cells3 : True := trivial

set_option maxHeartbeats 2000000 in
theorem get_stream (p : Nat) (v : Value) (D : List Int) (a n : Nat) (hb : Bytes D) (hl : D.length ≤ 65536) (ha : a ≤ 8 * D.length) (hn : n ≤ 8) (w : World) (h : Rstm w p v D a) :
    Calls Try.prog 49 #[.pointer (some ⟨p, 0, none⟩), .int .i64 (n : Int)] w fun x w' => x = .returned (.tuple #[.int .i64 (getF D a n).2, .int .i64 (getF D a n).1]) ∧ StepP p v D ((a : Int) + (n : Int)) w w' := by
  obtain ⟨ad, cap, rfl, q1, q2, q3⟩ := Rd.shape h.rd
  have hR := h.rd
  have hB := h.blk
  have hget := rdF_get hb hl a n (by omega)
  have hrd := fun W (hW : Rd8 W (.slice ad D.length cap) D) => read_any (.slice ad D.length cap) D ((8 * D.length : Nat) : Int) (a : Int) (n : Int) hb (by omega) (by omega) (by omega) W hW
  rw [hget] at hrd
  have hbd : 0 ≤ (getF D a n).2 ∧ (getF D a n).2 ≤ 4294967295 := by
    unfold getF
    split
    · exact ⟨by decide, by decide⟩
    · exact cut_num_bd D a n (by omega)
  obtain ⟨e0, y, hey⟩ : ∃ e y, getF D a n = (e, y) := ⟨_, _, rfl⟩
  rw [hey] at hrd hbd ⊢
  simp only at hbd
  obtain ⟨b0, b1⟩ := hbd
  unfold StepP
  obtain ⟨c, hc⟩ : ∃ c, 8 * D.length = c := ⟨_, rfl⟩
  rw [hc] at hB hrd ⊢
  obtain ⟨m, hm⟩ : ∃ m, D.length = m := ⟨_, rfl⟩
  have hc8 : c ≤ 524288 := by omega
  rw [hc] at ha
  rw [hm] at hrd q1 hR hB ⊢
  have r0 := hB.cell 0 _ rfl
  have r1 := hB.cell 1 _ rfl
  have r2 := hB.cell 2 _ rfl
  have hpl := hB.lt
  replace hrd := hidden hrd
  replace hR := hidden hR
  replace hB := hidden hB
  clear h hget hey hc hm
  go_enter Try.func49, Try.ntmps49
  go_upto_region 1 with fail
  go_region_held3 (fun w' => w'.cell? ⟨p, 0, none⟩ = some (.slice ad m cap) ∧ w'.cell? ⟨p, 1, none⟩ = some (.int .i64 (c : Int)) ∧ w'.cell? ⟨p, 2, none⟩ = some (.int .i64 (a : Int))) (go_keep)
    (first | (go_at_call 48; refine (hrd.out _ (by first | exact Rd.drew hR.out | exact hR.out)).mono ?_; rintro e w5 ⟨rfl, g5⟩; have gX : Ext w w5 := (by first | exact g5.past_drew | exact g5); have j0 := gX.cell r0; have j1 := gX.cell r1; have j2 := gX.cell r2))
  have hB5 := hB.out.ext gX
  have j3 := hB5.frozen 2
  replace hB5 := hidden hB5
  go_wp2_with fail
  go_ret2
  exact ⟨rfl, hB5.out.set 2 _, (Chg.of_ext [p] gX).setCell (p := ⟨p, 2, none⟩) (Or.inl (by simp)) _⟩

set_option maxHeartbeats 2000000 in
theorem gamma_stream (p : Nat) (v : Value) (D : List Int) (a : Nat) (most : Int) (hb : Bytes D) (hl : D.length ≤ 65536) (ha : a ≤ 8 * D.length) (hm0 : 0 ≤ most) (hm1 : most ≤ 4096) (w : World) (h : Rstm w p v D a) :
    Calls Try.prog 50 #[.pointer (some ⟨p, 0, none⟩), .int .i64 most] w fun x w' => x = .returned (.tuple #[.int .i64 (gmF D a most).2.1, .int .i64 (gmF D a most).1]) ∧ StepP p v D (gmF D a most).2.2 w w' := by
  obtain ⟨ad, cap, rfl, q1, q2, q3⟩ := Rd.shape h.rd
  have hR := h.rd
  have hB := h.blk
  have hrd := fun W (hW : Rd8 W (.slice ad D.length cap) D) => rgamma_any (.slice ad D.length cap) D ((8 * D.length : Nat) : Int) (a : Int) hb (by omega) (by omega) (by omega) (by omega) W hW
  have hbd := rgF_bd hb hl a
  unfold gmF
  obtain ⟨e0, y, z, hey⟩ : ∃ e y z, rgF D ((8 * D.length : Nat) : Int) (a : Int) = (e, y, z) := ⟨_, _, _, rfl⟩
  rw [hey] at hrd hbd ⊢
  simp only at hbd ⊢
  obtain ⟨b0, b1, -⟩ := hbd
  unfold StepP
  obtain ⟨c, hc⟩ : ∃ c, 8 * D.length = c := ⟨_, rfl⟩
  rw [hc] at hB hrd ⊢
  obtain ⟨m, hm⟩ : ∃ m, D.length = m := ⟨_, rfl⟩
  have hc8 : c ≤ 524288 := by omega
  rw [hc] at ha
  rw [hm] at hrd q1 hR hB ⊢
  have r0 := hB.cell 0 _ rfl
  have r1 := hB.cell 1 _ rfl
  have r2 := hB.cell 2 _ rfl
  have hpl := hB.lt
  replace hrd := hidden hrd
  replace hR := hidden hR
  replace hB := hidden hB
  clear h hey hc hm
  have fin : ∀ (E : Int), (if e0 = 0 ∧ most < y then 2 else e0) = E → Hid ((if e0 = 0 ∧ most < y then 2 else e0) = E) := fun E h => h
  by_cases he : e0 = 0
  · subst he
    by_cases hmy : most < y
    · rw [if_pos ⟨rfl, hmy⟩]
      clear fin
      go_enter Try.func50, Try.ntmps50
      go_upto_region 1 with fail
      go_region_held3 (fun w' => w'.cell? ⟨p, 0, none⟩ = some (.slice ad m cap) ∧ w'.cell? ⟨p, 1, none⟩ = some (.int .i64 (c : Int)) ∧ w'.cell? ⟨p, 2, none⟩ = some (.int .i64 (a : Int))) (go_keep)
        (first | (go_at_call 59; refine (hrd.out _ (by first | exact Rd.drew hR.out | exact hR.out)).mono ?_; rintro e w5 ⟨rfl, g5⟩; have gX : Ext w w5 := (by first | exact g5.past_drew | exact g5); have j0 := gX.cell r0; have j1 := gX.cell r1; have j2 := gX.cell r2))
      have hB5 := hB.out.ext gX
      have j3 := hB5.frozen 2
      replace hB5 := hidden hB5
      go_wp2_with fail
      go_ret2
      exact ⟨rfl, hB5.out.set 2 _, (Chg.of_ext [p] gX).setCell (p := ⟨p, 2, none⟩) (Or.inl (by simp)) _⟩
    · rw [if_neg (fun h => hmy h.2)]
      clear fin
      go_enter Try.func50, Try.ntmps50
      go_upto_region 1 with fail
      go_region_held3 (fun w' => w'.cell? ⟨p, 0, none⟩ = some (.slice ad m cap) ∧ w'.cell? ⟨p, 1, none⟩ = some (.int .i64 (c : Int)) ∧ w'.cell? ⟨p, 2, none⟩ = some (.int .i64 (a : Int))) (go_keep)
        (first | (go_at_call 59; refine (hrd.out _ (by first | exact Rd.drew hR.out | exact hR.out)).mono ?_; rintro e w5 ⟨rfl, g5⟩; have gX : Ext w w5 := (by first | exact g5.past_drew | exact g5); have j0 := gX.cell r0; have j1 := gX.cell r1; have j2 := gX.cell r2))
      have hB5 := hB.out.ext gX
      have j3 := hB5.frozen 2
      replace hB5 := hidden hB5
      go_wp2_with fail
      go_ret2
      exact ⟨rfl, hB5.out.set 2 _, (Chg.of_ext [p] gX).setCell (p := ⟨p, 2, none⟩) (Or.inl (by simp)) _⟩
  · have he1 : (e0 == 0) = false := by simp [he]
    rw [if_neg (fun h => he h.1)]
    clear fin
    go_enter Try.func50, Try.ntmps50
    go_upto_region 1 with fail
    go_region_held3 (fun w' => w'.cell? ⟨p, 0, none⟩ = some (.slice ad m cap) ∧ w'.cell? ⟨p, 1, none⟩ = some (.int .i64 (c : Int)) ∧ w'.cell? ⟨p, 2, none⟩ = some (.int .i64 (a : Int))) (go_keep)
      (first | (go_at_call 59; refine (hrd.out _ (by first | exact Rd.drew hR.out | exact hR.out)).mono ?_; rintro e w5 ⟨rfl, g5⟩; have gX : Ext w w5 := (by first | exact g5.past_drew | exact g5); have j0 := gX.cell r0; have j1 := gX.cell r1; have j2 := gX.cell r2))
    have hB5 := hB.out.ext gX
    have j3 := hB5.frozen 2
    replace hB5 := hidden hB5
    go_wp2_with fail
    go_ret2
    exact ⟨rfl, hB5.out.set 2 _, (Chg.of_ext [p] gX).setCell (p := ⟨p, 2, none⟩) (Or.inl (by simp)) _⟩
end Go.Proofs.Ytlnlffmlficjnaa
