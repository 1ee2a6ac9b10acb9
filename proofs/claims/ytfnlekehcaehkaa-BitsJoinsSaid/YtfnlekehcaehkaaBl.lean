/- The chapter's examples. -/
import Derived.Test.YtfnlekehcaehkaaBk
import Derived.Deep.RegionHeld3
import Derived.Outline
namespace Go.Proofs.Ytfnlekehcaehkaa
open Go.RowKit
set_option linter.unusedVariables false
attribute [local go_sem ↓] Go.wp_at_zero Go.wp_at_succ

theorem by_lit1 : Bytes [160] := by intro x hx; simp at hx; omega
theorem by_lit2 : Bytes [160, 64] := by intro x hx; simp at hx; omega
theorem by_lit3 : Bytes [128] := by intro x hx; simp at hx; omega
theorem by_lit4 : Bytes [162, 128] := by intro x hx; simp at hx; omega
theorem by_nil : Bytes [] := fun x hx => by cases hx

/-- A slice of bytes that a text writes down. -/
theorem rd_lit (w : World) (l : List Int) (n : Nat) (hn : l.length = n) (hm : 0 < n ∧ n ≤ 1000 := by decide) : Rd8 (w.alloc (.cells (bs l).toArray 5)) (.slice (some ⟨w.heap.size, 0, none⟩) n n) l := by
  subst hn
  refine ⟨by simp [bs], some ⟨w.heap.size, 0, none⟩, l.length, rfl, Nat.le_refl _, by unfold maxLen; omega, (fun e => by cases e), fun _ => ⟨w.heap.size, 0, rfl, by simp, fun j hj => ?_⟩⟩
  rw [Nat.zero_add, World.cell?_alloc_at _ _ _ _ rfl]
  have hj' : j < l.length := by simpa [bs] using hj
  simp [bs, List.getD, hj']

set_option maxHeartbeats 4000000 in
theorem awake_any (w : World) : Calls Try.prog 9 #[] w fun x w' => x = .returned (.bool true) ∧ Ext w w' := by
  go_enter Try.func9, Try.ntmps9
  go_wp2_with fail
  refine (append_any _ [] 0 5 3 by_nil (by simp) (by omega) (by omega) (by omega) (by omega) (by omega) (by omega) _ (Rd8.nil _)).mono ?_
  rw [ev1]
  rintro e w1 ⟨a1, k1, rfl, R1, F1, g1⟩
  have R1 : Rd8 w1 (.slice a1 1 k1) [160] := R1
  have C1 := Blk.new w1 [.slice a1 1 k1, .int .i64 3] 24
  have R1 := Rd.alloc R1 (.cells #[.slice a1 1 k1, .int .i64 3] 24)
  have E1 := g1.alloc (.cells #[.slice a1 1 k1, .int .i64 3] 24)
  obtain ⟨qa, hqa⟩ : ∃ q, w1.heap.size = q := ⟨_, rfl⟩
  rw [hqa] at C1
  have hqw := g1.size
  rw [hqa] at hqw
  have z0 := C1.cell 0 _ rfl
  have z1 := C1.cell 1 _ rfl
  go_wp2_with fail
  refine (append_any _ [160] 3 1 7 by_lit1 (by simp) (by omega) (by omega) (by omega) (by omega) (by omega) (by omega) _ R1).mono ?_
  rw [ev2]
  rintro e w2 ⟨a2, k2, rfl, R2, F2, g2⟩
  have R2 : Rd8 w2 (.slice a2 2 k2) [160, 64] := R2
  have C2 := C1.ext g2
  have z0 := C2.cell 0 _ rfl
  have z1 := C2.cell 1 _ rfl
  have f0 := C2.frozen 0
  have f1 := C2.frozen 1
  have E2 := E1.trans g2
  have hS2 := ((Chg.refl [qa] w2).setCell (p := ⟨qa, 0, none⟩) (Or.inl (by simp)) (.slice a2 2 k2)).setCell (p := ⟨qa, 1, none⟩) (Or.inl (by simp)) (.int .i64 10)
  have R3 := Rd.chg R2 hS2 (by intro x hx hn; simp at hx; subst hx; exact F2 _ (by simp; omega))
  have C3 := (C2.set 0 (.slice a2 2 k2)).set 1 (.int .i64 10)
  have E3 := (E2.setCell (p := ⟨qa, 0, none⟩) hqw (.slice a2 2 k2)).setCell (p := ⟨qa, 1, none⟩) hqw (.int .i64 10)
  go_wp2_with fail
  obtain ⟨W3, hW3⟩ : ∃ W, (w2.setCell ⟨qa, 0, none⟩ (.slice a2 2 k2)).setCell ⟨qa, 1, none⟩ (.int .i64 10) = W := ⟨_, rfl⟩
  rw [hW3] at R3 C3 E3
  rw [hW3]
  have C3 : Blk W3 qa 24 [.slice a2 2 k2, .int .i64 10] := C3
  clear C1 C2 R1 R2 E1 E2 hS2 F1 F2 g1 g2 z0 z1 f0 f1 hW3
  refine (read_any _ [160, 64] 10 6 4 by_lit2 (by simp) (by omega) (by omega) _ R3).mono ?_
  rw [ev3]
  rintro e w4 ⟨rfl, g4⟩
  have C4 := C3.ext g4
  have R4 := Rd.ext R3 g4
  have E4 := E3.trans g4
  clear C3 R3 E3 g4
  go_wp2_with fail
  refine (gamma_any _ [] 0 1 by_nil (by simp) (by omega) (by omega) _ (Rd8.nil _)).mono ?_
  rw [ev4]
  rintro e w5 ⟨b1, l1, rfl, R5, F5, g5⟩
  have R5 : Rd8 w5 (.slice b1 1 l1) [128] := R5
  have B5 := Blk.new w5 [.slice b1 1 l1, .int .i64 1] 24
  have C5 := (C4.ext g5).alloc (.cells #[.slice b1 1 l1, .int .i64 1] 24)
  have A5 := Rd.alloc (Rd.ext R4 g5) (.cells #[.slice b1 1 l1, .int .i64 1] 24)
  have R5 := Rd.alloc R5 (.cells #[.slice b1 1 l1, .int .i64 1] 24)
  have E5 := (E4.trans g5).alloc (.cells #[.slice b1 1 l1, .int .i64 1] 24)
  have hqq := (C4.ext g5).lt
  obtain ⟨qb, hqb⟩ : ∃ q, w5.heap.size = q := ⟨_, rfl⟩
  rw [hqb] at B5 hqq
  have hqwb : w.heap.size ≤ qb := by omega
  have z0 := B5.cell 0 _ rfl
  have z1 := B5.cell 1 _ rfl
  clear C4 R4 E4 g5 F5
  go_wp2_with fail
  refine (gamma_any _ [128] 1 2 by_lit3 (by simp) (by omega) (by omega) _ R5).mono ?_
  rw [ev5]
  rintro e w6 ⟨b2, l2, rfl, R6, F6, g6⟩
  have R6 : Rd8 w6 (.slice b2 1 l2) [160] := R6
  have B6 := B5.ext g6
  have z0 := B6.cell 0 _ rfl
  have z1 := B6.cell 1 _ rfl
  have f0 := B6.frozen 0
  have f1 := B6.frozen 1
  have hS6 := ((Chg.refl [qb] w6).setCell (p := ⟨qb, 0, none⟩) (Or.inl (by simp)) (.slice b2 1 l2)).setCell (p := ⟨qb, 1, none⟩) (Or.inl (by simp)) (.int .i64 4)
  have R7 := Rd.chg R6 hS6 (by intro x hx hn; simp at hx; subst hx; exact F6 _ (by simp; omega))
  have A7 := Rd.chg (Rd.ext A5 g6) hS6 (by intro x hx hn; simp at hx; subst hx; exact Rd8.off_any (Rd.ext A5 g6) B6 (by intro u hu n; simp at hu; rcases hu with rfl | rfl <;> simp) hn)
  have C7 := (C5.ext g6).chg hS6 (by simp; omega)
  have B7 := (B6.set 0 (.slice b2 1 l2)).set 1 (.int .i64 4)
  have E7 := ((E5.trans g6).setCell (p := ⟨qb, 0, none⟩) hqwb (.slice b2 1 l2)).setCell (p := ⟨qb, 1, none⟩) hqwb (.int .i64 4)
  go_wp2_with fail
  obtain ⟨W7, hW7⟩ : ∃ W, (w6.setCell ⟨qb, 0, none⟩ (.slice b2 1 l2)).setCell ⟨qb, 1, none⟩ (.int .i64 4) = W := ⟨_, rfl⟩
  rw [hW7] at R7 A7 C7 B7 E7
  rw [hW7]
  have B7 : Blk W7 qb 24 [.slice b2 1 l2, .int .i64 4] := B7
  clear B5 C5 A5 R5 E5 R6 F6 g6 B6 z0 z1 f0 f1 hS6 hW7
  refine (gamma_any _ [160] 4 5 by_lit1 (by simp) (by omega) (by omega) _ R7).mono ?_
  rw [ev6]
  rintro e w8 ⟨b3, l3, rfl, R8, F8, g8⟩
  have R8 : Rd8 w8 (.slice b3 2 l3) [162, 128] := R8
  have B8 := B7.ext g8
  have z0 := B8.cell 0 _ rfl
  have z1 := B8.cell 1 _ rfl
  have f0 := B8.frozen 0
  have f1 := B8.frozen 1
  have hqb7 := B7.lt
  have hS8 := ((Chg.refl [qb] w8).setCell (p := ⟨qb, 0, none⟩) (Or.inl (by simp)) (.slice b3 2 l3)).setCell (p := ⟨qb, 1, none⟩) (Or.inl (by simp)) (.int .i64 9)
  have R9 := Rd.chg R8 hS8 (by intro x hx hn; simp at hx; subst hx; exact F8 _ hqb7)
  have A9 := Rd.chg (Rd.ext A7 g8) hS8 (by intro x hx hn; simp at hx; subst hx; exact Rd8.off_any (Rd.ext A7 g8) B8 (by intro u hu n; simp at hu; rcases hu with rfl | rfl <;> simp) hn)
  have C9 := (C7.ext g8).chg hS8 (by simp; omega)
  have B9 := (B8.set 0 (.slice b3 2 l3)).set 1 (.int .i64 9)
  have E9 := ((E7.trans g8).setCell (p := ⟨qb, 0, none⟩) hqwb (.slice b3 2 l3)).setCell (p := ⟨qb, 1, none⟩) hqwb (.int .i64 9)
  go_wp2_with fail
  obtain ⟨W9, hW9⟩ : ∃ W, (w8.setCell ⟨qb, 0, none⟩ (.slice b3 2 l3)).setCell ⟨qb, 1, none⟩ (.int .i64 9) = W := ⟨_, rfl⟩
  rw [hW9] at R9 A9 C9 B9 E9
  rw [hW9]
  have B9 : Blk W9 qb 24 [.slice b3 2 l3, .int .i64 9] := B9
  clear B7 C7 A7 R7 E7 R8 F8 g8 B8 z0 z1 f0 f1 hS8 hW9 hqb7
  refine (rgamma_any _ [162, 128] 9 4 by_lit4 (by simp) (by omega) (by omega) (by omega) _ R9).mono ?_
  rw [ev7]
  rintro e wA ⟨rfl, gA⟩
  have BA := B9.ext gA
  have CA := C9.ext gA
  have AA := Rd.ext A9 gA
  have RA := Rd.ext R9 gA
  have EA := E9.trans gA
  clear B9 C9 A9 R9 E9 gA
  have c0 := CA.cell 0 _ rfl
  have c1 := CA.cell 1 _ rfl
  have d0 := BA.cell 0 _ rfl
  have d1 := BA.cell 1 _ rfl
  go_wp2_with fail
  have L1 : Rd8 (wA.alloc (.cells #[.int .u8 160, .int .u8 64] 5)) (.slice (some ⟨wA.heap.size, 0, none⟩) 2 2) [160, 64] := rd_lit wA [160, 64] 2 rfl
  refine (rsame_same 10 _ _ [160, 64] _ (Rd.alloc AA _) L1).mono ?_
  rintro e wB ⟨rfl, gB⟩
  have BB := (BA.alloc (.cells #[.int .u8 160, .int .u8 64] 5)).ext gB
  have RB := Rd.ext (Rd.alloc RA (.cells #[.int .u8 160, .int .u8 64] 5)) gB
  have EB := (EA.alloc (.cells #[.int .u8 160, .int .u8 64] 5)).trans gB
  clear BA RA EA CA AA c0 c1 d0 d1 gB L1
  have d0 := BB.cell 0 _ rfl
  have d1 := BB.cell 1 _ rfl
  go_wp2_with fail
  have L2 : Rd8 (wB.alloc (.cells #[.int .u8 162, .int .u8 128] 5)) (.slice (some ⟨wB.heap.size, 0, none⟩) 2 2) [162, 128] := rd_lit wB [162, 128] 2 rfl
  refine (rsame_same 9 _ _ [162, 128] _ (Rd.alloc RB _) L2).mono ?_
  rintro e wC ⟨rfl, gC⟩
  have EC := (EB.alloc (.cells #[.int .u8 162, .int .u8 128] 5)).trans gC
  clear BB RB EB d0 d1 gC L2
  go_wp2_with fail
  go_ret
  exact ⟨rfl, EC⟩
end Go.Proofs.Ytfnlekehcaehkaa
