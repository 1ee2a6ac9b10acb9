/- Layer 35: next of the stream. -/
import Derived.Test.YtlnlffmlficjnaaLn
namespace Go.Proofs.Ytlnlffmlficjnaa
open Go.RowKit
set_option linter.unusedVariables false
attribute [local go_sem ↓] Go.wp_at_zero Go.wp_at_succ

/-- A token that is read at a place: error, token, place behind it. -/
def nxF (D : List Int) (a : Nat) : Int × (Int × Int × Int) × Int :=
  if (getF D a 1).1 ≠ 0 then ((getF D a 1).1, (0, 0, 0), (a : Int) + 1)
  else if (getF D a 1).2 = 0 then ((getF D (a + 1) 8).1, (0, 0, (getF D (a + 1) 8).2), (a : Int) + 9)
  else if (gmF D (a + 1) 254).1 ≠ 0 then ((gmF D (a + 1) 254).1, (0, 0, 0), (gmF D (a + 1) 254).2.2)
  else ((gmF D (gmF D (a + 1) 254).2.2.toNat 4096).1, ((gmF D (a + 1) 254).2.1 + 1, (gmF D (gmF D (a + 1) 254).2.2.toNat 4096).2.1, 0), (gmF D (gmF D (a + 1) 254).2.2.toNat 4096).2.2)
theorem getF_ok {D : List Int} {a n : Nat} (h : (getF D a n).1 = 0) : a + n ≤ 8 * D.length ∧ (getF D a n).2 = num (cut D a n) := by
  unfold getF at h ⊢
  split at h
  · cases h
  · next h1 => rw [if_neg h1]; exact ⟨by omega, rfl⟩
theorem getF_bd (D : List Int) (a n : Nat) : 0 ≤ (getF D a n).2 ∧ (getF D a n).2 < 2 ^ n := by
  have hp := pow2_pos n
  unfold getF
  split
  · exact ⟨by decide, hp⟩
  · have := num_bd (cut_01 D a n)
    rw [cut_len] at this
    exact this
theorem gmF_ok {D : List Int} (hb : Bytes D) (hl : D.length ≤ 65536) {a : Nat} {most : Int} (h : (gmF D a most).1 = 0) : (rgF D ((8 * D.length : Nat) : Int) a).1 = 0 ∧ (gmF D a most).2.1 ≤ most ∧ (a : Int) < (gmF D a most).2.2 ∧ (gmF D a most).2.2 ≤ ((8 * D.length : Nat) : Int) := by
  have hbd := rgF_bd hb hl a
  unfold gmF at h ⊢
  simp only at h ⊢
  by_cases h1 : (rgF D ((8 * D.length : Nat) : Int) a).1 = 0 ∧ most < (rgF D ((8 * D.length : Nat) : Int) a).2.1
  · rw [if_pos h1] at h; cases h
  · rw [if_neg h1] at h
    obtain ⟨h3, h4⟩ := hbd.2.2 h
    refine ⟨h, ?_, h3, h4⟩
    rcases Int.lt_or_le most (rgF D ((8 * D.length : Nat) : Int) a).2.1 with h5 | h5
    · exact absurd ⟨h, h5⟩ h1
    · exact h5
theorem Rstm.off {w : World} {p a : Nat} {v : Value} {D : List Int} (h : Rstm w p v D a) : 0 < D.length → v.ownBlock ≠ some p :=
  Rd8.off_any h.rd h.blk (fun u hu n => by
    obtain ⟨ad, cap, rfl, -⟩ := Rd.shape h.rd
    simp only [List.mem_cons, List.not_mem_nil, or_false] at hu
    rcases hu with rfl | rfl | rfl <;> intro e <;> cases e)
theorem Rstm.moved {w w' : World} {p a : Nat} {v : Value} {D : List Int} (h : Rstm w p v D a) (k : Ext w w') : Rstm w' p v D a := ⟨h.blk.ext k, Rd.ext h.rd k⟩
theorem Rstm.step {w w' : World} {p a b : Nat} {v : Value} {D : List Int} {a' : Int} (h : Rstm w p v D a) (k : StepP p v D a' w w') (hb : a' = (b : Int)) : Rstm w' p v D b := by
  subst hb
  exact ⟨k.1, Rd.chg h.rd k.2 (fun x hx hl => by simp at hx; subst hx; exact h.off hl)⟩

/-- What next leaves. -/
def NextP (p : Nat) (v : Value) (D : List Int) (r : Int × (Int × Int × Int) × Int) (w : World) (x : Ending) (w' : World) : Prop :=
  x = .returned (.tuple #[tkv r.2.1, .int .i64 r.1]) ∧ StepP p v D r.2.2 w w'

set_option maxHeartbeats 2000000 in
theorem next_any (p : Nat) (v : Value) (D : List Int) (a : Nat) (hb : Bytes D) (hl : D.length ≤ 65536) (ha : a ≤ 8 * D.length) (w : World) (h : Rstm w p v D a) :
    Calls Try.prog 39 #[.pointer (some ⟨p, 0, none⟩)] w (NextP p v D (nxF D a) w) := by
  have hpl := h.blk.lt
  have S0 := h.moved ((Ext.refl w).alloc (.cells #[.int .i64 0, .int .i64 0, .int .u8 0] 27))
  have Z0 := Blk.new w [.int .i64 0, .int .i64 0, .int .u8 0] 27
  have hN : Hid (nxF D a = nxF D a) := rfl
  have hnx : ∀ r, nxF D a = r → Hid (nxF D a = r) := fun r h => h
  have G1 := get_stream p v D a 1 hb hl ha (by omega)
  have hok1 : (getF D a 1).1 = 0 → a + 1 ≤ 8 * D.length := fun e => (getF_ok e).1
  have hN1 : (getF D a 1).1 ≠ 0 → nxF D a = ((getF D a 1).1, (0, 0, 0), (a : Int) + 1) := fun e => by unfold nxF; rw [if_pos e]
  have hN2 : (getF D a 1).1 = 0 → (getF D a 1).2 = 0 → nxF D a = ((getF D (a + 1) 8).1, (0, 0, (getF D (a + 1) 8).2), (a : Int) + 9) := fun e e2 => by unfold nxF; rw [if_neg (by simp [e]), if_pos e2]
  have hN3 : (getF D a 1).1 = 0 → (getF D a 1).2 ≠ 0 → (gmF D (a + 1) 254).1 ≠ 0 → nxF D a = ((gmF D (a + 1) 254).1, (0, 0, 0), (gmF D (a + 1) 254).2.2) := fun e e2 e3 => by unfold nxF; rw [if_neg (by simp [e]), if_neg e2, if_pos e3]
  have hN4 : (getF D a 1).1 = 0 → (getF D a 1).2 ≠ 0 → (gmF D (a + 1) 254).1 = 0 → nxF D a = ((gmF D (gmF D (a + 1) 254).2.2.toNat 4096).1, ((gmF D (a + 1) 254).2.1 + 1, (gmF D (gmF D (a + 1) 254).2.2.toNat 4096).2.1, 0), (gmF D (gmF D (a + 1) 254).2.2.toNat 4096).2.2) := fun e e2 e3 => by unfold nxF; rw [if_neg (by simp [e]), if_neg e2, if_neg (by simp [e3])]
  have hy1 := getF_bd D a 1
  obtain ⟨e1, y1, he1⟩ : ∃ e y, getF D a 1 = (e, y) := ⟨_, _, rfl⟩
  rw [he1] at G1 hok1 hN1 hN2 hN3 hN4 hy1
  simp only at hok1 hN1 hN2 hN3 hN4 hy1
  replace G1 := hidden G1
  replace S0 := hidden S0
  replace Z0 := hidden Z0
  clear hN hnx he1 h
  by_cases k1 : e1 = 0
  · subst k1
    have hle := hok1 rfl
    by_cases k2 : y1 = 0
    · subst k2
      rw [hN2 rfl rfl]
      have G2 := get_stream p v D (a + 1) 8 hb hl hle (by omega)
      have hy2 := getF_bd D (a + 1) 8
      obtain ⟨e2, y2, he2⟩ : ∃ e y, getF D (a + 1) 8 = (e, y) := ⟨_, _, rfl⟩
      rw [he2] at G2 hy2 ⊢
      simp only at hy2
      obtain ⟨y20, y21⟩ := hy2
      replace G2 := hidden G2
      have y22 : y2 ≤ 255 := by omega
      clear hok1 hN1 hN2 hN3 hN4 hy1 he2 y21
      go_enter Try.func39, Try.ntmps39
      go_wp2_with fail
      refine (G1.out _ S0.out).mono ?_
      rintro e w1 ⟨rfl, P1⟩
      have S1 := S0.out.step P1 (b := a + 1) (by simp)
      have Z1 := Z0.out.chg P1.2 (by simp; omega)
      replace S1 := hidden S1
      replace Z1 := hidden Z1
      go_wp2_with fail
      refine (G2.out _ S1.out).mono ?_
      rintro e w2 ⟨rfl, P2⟩
      have Z2 := Z1.out.chg P2.2 (by simp; omega)
      have f0 := Z2.frozen 0
      have f1 := Z2.frozen 1
      have f2 := Z2.frozen 2
      have z0 := Z2.cell 0 _ rfl
      have z1 := Z2.cell 1 _ rfl
      have z2 := Z2.cell 2 _ rfl
      replace Z2 := hidden Z2
      go_wp2_with fail
      have Z3 := ((Z2.out.set 0 (.int .i64 0)).set 1 (.int .i64 0)).set 2 (.int .u8 y2)
      have q0 := Z3.cell 0 _ rfl
      have q1 := Z3.cell 1 _ rfl
      have q2 := Z3.cell 2 _ rfl
      refine bodyPost_ret (v := .tuple #[.agg #[.int .i64 0, .int .i64 0, .int .u8 y2], .int .i64 e2]) (by simp [results, Try.results39, go_sem, q0, q1, q2]) rfl ?_
      have hne : p ≠ w.heap.size := by omega
      refine ⟨rfl, ?_, ?_⟩
      · have hB := ((P2.1.set_other (i := 0) hne (.int .i64 0)).set_other (i := 1) hne (.int .i64 0)).set_other (i := 2) hne (.int .u8 y2)
        rw [show (((a + 1 : Nat) : Int)) + ((8 : Nat) : Int) = (a : Int) + 9 by omega] at hB
        exact hB
      · have hC := (((Chg.refl [p] w).alloc (.cells #[.int .i64 0, .int .i64 0, .int .u8 0] 27)).trans P1.2 (by simp)).trans P2.2 (by simp)
        exact ((hC.setCell (p := ⟨w.heap.size, 0, none⟩) (Or.inr (Nat.le_refl _)) _).setCell (p := ⟨w.heap.size, 1, none⟩) (Or.inr (Nat.le_refl _)) _).setCell (p := ⟨w.heap.size, 2, none⟩) (Or.inr (Nat.le_refl _)) _
    · have k3 : (y1 == 0) = false := by simp [k2]
      have G2 := gamma_stream p v D (a + 1) 254 hb hl hle (by omega) (by omega)
      have hgok := fun e => gmF_ok hb hl (a := a + 1) (most := 254) e
      replace hN3 := hN3 rfl k2
      replace hN4 := hN4 rfl k2
      have hy2b : 0 ≤ (gmF D (a + 1) 254).2.1 ∧ (gmF D (a + 1) 254).2.1 ≤ 4294967295 := ⟨(rgF_bd hb hl (a + 1)).1, (rgF_bd hb hl (a + 1)).2.1⟩
      obtain ⟨e2, y2, t2, he2⟩ : ∃ e y t, gmF D (a + 1) 254 = (e, y, t) := ⟨_, _, _, rfl⟩
      rw [he2] at G2 hgok hN3 hN4 hy2b
      simp only at hgok hN3 hN4 hy2b
      replace G2 := hidden G2
      obtain ⟨y20, y21⟩ := hy2b
      clear hok1 hN1 hN2 hy1 k2
      by_cases k4 : e2 = 0
      · subst k4
        obtain ⟨-, g1, g2, g3⟩ := hgok rfl
        rw [hN4 rfl]
        have ht2 : t2 = ((t2.toNat : Nat) : Int) := by omega
        have G3 := gamma_stream p v D t2.toNat 4096 hb hl (by omega) (by omega) (by omega)
        obtain ⟨e3, y3, t3, he3⟩ : ∃ e y t, gmF D t2.toNat 4096 = (e, y, t) := ⟨_, _, _, rfl⟩
        rw [he3] at G3 ⊢
        simp only
        replace G3 := hidden G3
        replace ht2 := hidden ht2
        clear hN3 hN4 hgok he2 he3 g2 g3
        go_enter Try.func39, Try.ntmps39
        go_wp2_with fail
        refine (G1.out _ S0.out).mono ?_
        rintro e w1 ⟨rfl, P1⟩
        have S1 := S0.out.step P1 (b := a + 1) (by simp)
        have Z1 := Z0.out.chg P1.2 (by simp; omega)
        replace S1 := hidden S1
        replace Z1 := hidden Z1
        go_wp2_with fail
        refine (G2.out _ S1.out).mono ?_
        rintro e w2 ⟨rfl, P2⟩
        have Z2 := Z1.out.chg P2.2 (by simp; omega)
        have S2 := S1.out.step P2 (b := t2.toNat) ht2.out
        replace S2 := hidden S2
        replace Z2 := hidden Z2
        go_wp2_with fail
        refine (G3.out _ S2.out).mono ?_
        rintro e w3 ⟨rfl, P3⟩
        have Z3 := Z2.out.chg P3.2 (by simp; omega)
        have f0 := Z3.frozen 0
        have f1 := Z3.frozen 1
        have f2 := Z3.frozen 2
        have z0 := Z3.cell 0 _ rfl
        have z1 := Z3.cell 1 _ rfl
        have z2 := Z3.cell 2 _ rfl
        replace Z3 := hidden Z3
        go_wp2_with fail
        have Z4 := ((Z3.out.set 0 (.int .i64 (y2 + 1))).set 1 (.int .i64 y3)).set 2 (.int .u8 0)
        have q0 := Z4.cell 0 _ rfl
        have q1 := Z4.cell 1 _ rfl
        have q2 := Z4.cell 2 _ rfl
        refine bodyPost_ret (v := .tuple #[.agg #[.int .i64 (y2 + 1), .int .i64 y3, .int .u8 0], .int .i64 e3]) (by simp [results, Try.results39, go_sem, q0, q1, q2]) rfl ?_
        have hne : p ≠ w.heap.size := by omega
        refine ⟨rfl, ?_, ?_⟩
        · exact ((P3.1.set_other (i := 0) hne (.int .i64 (y2 + 1))).set_other (i := 1) hne (.int .i64 y3)).set_other (i := 2) hne (.int .u8 0)
        · have hC := ((((Chg.refl [p] w).alloc (.cells #[.int .i64 0, .int .i64 0, .int .u8 0] 27)).trans P1.2 (by simp)).trans P2.2 (by simp)).trans P3.2 (by simp)
          exact ((hC.setCell (p := ⟨w.heap.size, 0, none⟩) (Or.inr (Nat.le_refl _)) _).setCell (p := ⟨w.heap.size, 1, none⟩) (Or.inr (Nat.le_refl _)) _).setCell (p := ⟨w.heap.size, 2, none⟩) (Or.inr (Nat.le_refl _)) _
      · have k5 : (e2 != 0) = true := by simp [k4]
        rw [hN3 k4]
        clear hN3 hN4 hgok he2 k4
        go_enter Try.func39, Try.ntmps39
        go_wp2_with fail
        refine (G1.out _ S0.out).mono ?_
        rintro e w1 ⟨rfl, P1⟩
        have S1 := S0.out.step P1 (b := a + 1) (by simp)
        have Z1 := Z0.out.chg P1.2 (by simp; omega)
        replace S1 := hidden S1
        replace Z1 := hidden Z1
        go_wp2_with fail
        refine (G2.out _ S1.out).mono ?_
        rintro e w2 ⟨rfl, P2⟩
        have Z2 := Z1.out.chg P2.2 (by simp; omega)
        have f0 := Z2.frozen 0
        have f1 := Z2.frozen 1
        have f2 := Z2.frozen 2
        have z0 := Z2.cell 0 _ rfl
        have z1 := Z2.cell 1 _ rfl
        have z2 := Z2.cell 2 _ rfl
        replace Z2 := hidden Z2
        go_wp2_with fail
        have Z3 := ((Z2.out.set 0 (.int .i64 0)).set 1 (.int .i64 0)).set 2 (.int .u8 0)
        have q0 := Z3.cell 0 _ rfl
        have q1 := Z3.cell 1 _ rfl
        have q2 := Z3.cell 2 _ rfl
        refine bodyPost_ret (v := .tuple #[.agg #[.int .i64 0, .int .i64 0, .int .u8 0], .int .i64 e2]) (by simp [results, Try.results39, go_sem, q0, q1, q2]) rfl ?_
        have hne : p ≠ w.heap.size := by omega
        refine ⟨rfl, ?_, ?_⟩
        · exact ((P2.1.set_other (i := 0) hne (.int .i64 0)).set_other (i := 1) hne (.int .i64 0)).set_other (i := 2) hne (.int .u8 0)
        · have hC := (((Chg.refl [p] w).alloc (.cells #[.int .i64 0, .int .i64 0, .int .u8 0] 27)).trans P1.2 (by simp)).trans P2.2 (by simp)
          exact ((hC.setCell (p := ⟨w.heap.size, 0, none⟩) (Or.inr (Nat.le_refl _)) _).setCell (p := ⟨w.heap.size, 1, none⟩) (Or.inr (Nat.le_refl _)) _).setCell (p := ⟨w.heap.size, 2, none⟩) (Or.inr (Nat.le_refl _)) _
  · have k2 : (e1 != 0) = true := by simp [k1]
    rw [hN1 k1]
    clear hok1 hN1 hN2 hN3 hN4 hy1 k1
    go_enter Try.func39, Try.ntmps39
    go_wp2_with fail
    refine (G1.out _ S0.out).mono ?_
    rintro e w1 ⟨rfl, P1⟩
    have Z1 := Z0.out.chg P1.2 (by simp; omega)
    have f0 := Z1.frozen 0
    have f1 := Z1.frozen 1
    have f2 := Z1.frozen 2
    have z0 := Z1.cell 0 _ rfl
    have z1 := Z1.cell 1 _ rfl
    have z2 := Z1.cell 2 _ rfl
    replace Z1 := hidden Z1
    go_wp2_with fail
    have Z3 := ((Z1.out.set 0 (.int .i64 0)).set 1 (.int .i64 0)).set 2 (.int .u8 0)
    have q0 := Z3.cell 0 _ rfl
    have q1 := Z3.cell 1 _ rfl
    have q2 := Z3.cell 2 _ rfl
    refine bodyPost_ret (v := .tuple #[.agg #[.int .i64 0, .int .i64 0, .int .u8 0], .int .i64 e1]) (by simp [results, Try.results39, go_sem, q0, q1, q2]) rfl ?_
    have hne : p ≠ w.heap.size := by omega
    refine ⟨rfl, ?_, ?_⟩
    · exact ((P1.1.set_other (i := 0) hne (.int .i64 0)).set_other (i := 1) hne (.int .i64 0)).set_other (i := 2) hne (.int .u8 0)
    · have hC := ((Chg.refl [p] w).alloc (.cells #[.int .i64 0, .int .i64 0, .int .u8 0] 27)).trans P1.2 (by simp)
      exact ((hC.setCell (p := ⟨w.heap.size, 0, none⟩) (Or.inr (Nat.le_refl _)) _).setCell (p := ⟨w.heap.size, 1, none⟩) (Or.inr (Nat.le_refl _)) _).setCell (p := ⟨w.heap.size, 2, none⟩) (Or.inr (Nat.le_refl _)) _
end Go.Proofs.Ytlnlffmlficjnaa
