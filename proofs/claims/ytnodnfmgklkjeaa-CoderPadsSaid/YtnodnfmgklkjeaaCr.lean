/- The chapter's examples. -/
import Derived.Test.YtnodnfmgklkjeaaCq
namespace Go.Proofs.Ytnodnfmgklkjeaa
open Go.RowKit
set_option linter.unusedVariables false
attribute [local go_sem ↓] Go.wp_at_zero Go.wp_at_succ

theorem ex1 : finB 0 4294967295 [] = [] ∧ chk 4294967295 0 = 0 := by decide +kernel
theorem ex2 : encF 0 4294967295 [] 1 2048 = (0, 0, 2147481600, []) := by decide +kernel
theorem ex3 : finB 0 2147481600 [] = [] ∧ chk 2147481600 0 = 0 := by decide +kernel
theorem ex4 : encF 0 4294967295 [] 0 2048 = (0, 2147481600, 2147485695, []) := by decide +kernel
theorem ex5 : finB 2147481600 2147485695 [] = [128] ∧ chk 2147485695 0 = 0 := by decide +kernel
theorem ex6 : opF [128] = (4294967295, 2147483648, []) := by decide +kernel
theorem ex7 : decF 4294967295 2147483648 [] 2048 = (0, 0, 2147485695, 2048, []) := by decide +kernel
theorem ex8 : decF 2147485695 2048 [] 2048 = (0, 1, 1073741824, 2048, []) := by decide +kernel
theorem ex9 : finB 4294967280 16777216 [18, 255] = [19] ∧ chk 16777216 2 = 0 := by decide +kernel

/-- A row of bytes that has just been made. -/
theorem Rd8.new (w : World) (t : TypeId) (l : List Int) (n : Nat) (hn : l.length = n) (hm : n ≤ 1000) : Rd8 (w.alloc (.cells (bs l).toArray t)) (.slice (some ⟨w.heap.size, 0, none⟩) n n) l := by
  subst hn
  refine ⟨by rw [bs_len]; omega, some ⟨w.heap.size, 0, none⟩, l.length, rfl, Nat.le_refl _, by unfold maxLen; omega, (fun e => by cases e), fun _ => ⟨w.heap.size, 0, rfl, by simp, fun j hj => ?_⟩⟩
  have h := (Blk.new w (bs l) t).cell j ((bs l).getD j undef) (by simp [List.getD, hj])
  rw [Nat.zero_add]
  exact h

theorem Bytes.nil : Bytes [] := fun x hx => by cases hx

set_option maxRecDepth 100000 in
set_option maxHeartbeats 2000000 in
theorem awake_any (w : World) : Calls Try.prog 11 #[] w fun x w' => x = .returned (.bool true) ∧ Ext w w' := by
  go_enter Try.func11, Try.ntmps11
  go_wp2_with fail
  refine (Begin_any _).mono ?_
  rintro e w1 ⟨rfl, g1⟩
  have C1 := Blk.new w1 [.int .u32 0, .int .u32 4294967295, .slice none 0 0] 25
  have E1 : Ext w (w1.alloc (.cells #[.int .u32 0, .int .u32 4294967295, .slice none 0 0] 25)) := g1.alloc _
  obtain ⟨qc, hqc⟩ : ∃ q, w1.heap.size = q := ⟨_, rfl⟩
  go_wp2_with fail
  refine (Finish_any 0 4294967295 _ [] Bytes.nil (by decide) (by decide) (by decide) _ (Rd8.nil _)).mono ?_
  unfold finE
  rw [ex1.1, show chk 4294967295 ([] : List Int).length = 0 from ex1.2]
  rintro e w2 ⟨a2, k2, rfl, R2, g2⟩
  rw [hqc] at C1
  have C2 := C1.ext g2
  have E2 := E1.trans g2
  have c0 := C2.cell 0 _ rfl
  have c1 := C2.cell 1 _ rfl
  have c2 := C2.cell 2 _ rfl
  go_wp2_with fail
  refine (Encode_any 0 4294967295 1 2048 _ [] Bytes.nil (by decide) (by decide) (by decide) _ (Rd8.nil _)).mono ?_
  rw [ex2]
  rintro e w3 ⟨a3, k3, rfl, R3, g3⟩
  have R3' : Rd8 w3 (.slice a3 0 k3) [] := R3
  have C3 := C2.ext g3
  have E3 := E2.trans g3
  have c0 := C3.cell 0 _ rfl
  have c1 := C3.cell 1 _ rfl
  have c2 := C3.cell 2 _ rfl
  have A3 := Blk.new w3 [.int .u32 0, .int .u32 2147481600, .slice a3 0 k3] 25
  have C3' := C3.alloc (.cells #[.int .u32 0, .int .u32 2147481600, .slice a3 0 k3] 25)
  have E3' := E3.alloc (.cells #[.int .u32 0, .int .u32 2147481600, .slice a3 0 k3] 25)
  obtain ⟨qa, hqa⟩ : ∃ q, w3.heap.size = q := ⟨_, rfl⟩
  go_wp2_with fail
  refine (Finish_any 0 2147481600 _ [] Bytes.nil (by decide) (by decide) (by decide) _ (Rd.alloc R3' _)).mono ?_
  unfold finE
  rw [ex3.1, show chk 2147481600 ([] : List Int).length = 0 from ex3.2]
  rintro e w4 ⟨a4, k4, rfl, R4, g4⟩
  rw [hqa] at A3
  have C4 := C3'.ext g4
  have E4 := E3'.trans g4
  have c0 := C4.cell 0 _ rfl
  have c1 := C4.cell 1 _ rfl
  have c2 := C4.cell 2 _ rfl
  go_wp2_with fail
  refine (Encode_any 0 4294967295 0 2048 _ [] Bytes.nil (by decide) (by decide) (by decide) _ (Rd8.nil _)).mono ?_
  rw [ex4]
  rintro e w5 ⟨a5, k5, rfl, R5, g5⟩
  have R5' : Rd8 w5 (.slice a5 0 k5) [] := R5
  have E5 := E4.trans g5
  have B5 := Blk.new w5 [.int .u32 2147481600, .int .u32 2147485695, .slice a5 0 k5] 25
  have E5' := E5.alloc (.cells #[.int .u32 2147481600, .int .u32 2147485695, .slice a5 0 k5] 25)
  obtain ⟨qb, hqb⟩ : ∃ q, w5.heap.size = q := ⟨_, rfl⟩
  go_wp2_with fail
  refine (Finish_any 2147481600 2147485695 _ [] Bytes.nil (by decide) (by decide) (by decide) _ (Rd.alloc R5' _)).mono ?_
  unfold finE
  rw [ex5.1, show chk 2147485695 ([] : List Int).length = 0 from ex5.2]
  rintro e w6 ⟨a6, k6, rfl, R6, g6⟩
  rw [hqb] at B5
  have B6 := B5.ext g6
  have E6 := E5'.trans g6
  have b0 := B6.cell 0 _ rfl
  have b1 := B6.cell 1 _ rfl
  have b2 := B6.cell 2 _ rfl
  have R6' : Rd8 w6 (.slice a6 1 k6) [128] := R6
  go_wp2_with fail
  have S6 : Rd8 (w6.alloc (.cells #[.int .u8 128] 5)) (.slice (some ⟨w6.heap.size, 0, none⟩) 1 1) [128] := Rd8.new w6 _ [128] 1 rfl (by decide)
  refine (same_any _ _ [128] [128] _ (Rd.alloc R6' _) S6).mono ?_
  rintro e w7 ⟨rfl, g7⟩
  have E7 : Ext w w7 := (E6.alloc _).trans g7
  go_wp2_with fail
  have S7 : Rd8 (w7.alloc (.cells #[.int .u8 128] 5)) (.slice (some ⟨w7.heap.size, 0, none⟩) 1 1) [128] := Rd8.new w7 _ [128] 1 rfl (by decide)
  refine (Open_any _ [128] (by intro x hx; simp at hx; omega) (by decide) _ S7).mono ?_
  rw [ex6]
  rintro e w8 ⟨a8, k8, rfl, R8, g8⟩
  have E8 : Ext w w8 := (E7.alloc _).trans g8
  go_wp2_with fail
  refine (Decode_any 4294967295 2147483648 2048 _ [] Bytes.nil (by decide) (by decide) (by decide) _ R8).mono ?_
  rw [ex7]
  rintro e w9 ⟨a9, k9, rfl, R9, g9⟩
  have E9 : Ext w w9 := E8.trans g9
  have R9' : Rd8 w9 (.slice a9 0 k9) [] := R9
  go_wp2_with fail
  refine (Decode_any 2147485695 2048 2048 _ [] Bytes.nil (by decide) (by decide) (by decide) _ (Rd.alloc R9' _)).mono ?_
  rw [ex8]
  rintro e w10 ⟨a10, k10, rfl, R10, g10⟩
  have E10 : Ext w w10 := (E9.alloc _).trans g10
  have R10' : Rd8 w10 (.slice a10 0 k10) [] := R10
  go_wp2_with fail
  have S10 : Rd8 ((w10.alloc (.cells #[.int .u32 1073741824, .int .u32 2048, .slice a10 0 k10] 44)).alloc (.cells #[.int .u8 18, .int .u8 255] 5)) (.slice (some ⟨w10.heap.size + 1, 0, none⟩) 2 2) [18, 255] := by
    have := Rd8.new (w10.alloc (.cells #[.int .u32 1073741824, .int .u32 2048, .slice a10 0 k10] 44)) 5 [18, 255] 2 rfl (by decide)
    rw [World.size_alloc] at this
    exact this
  refine (Finish_any 4294967280 16777216 _ [18, 255] (by intro x hx; simp at hx; omega) (by decide) (by decide) (by decide) _ S10).mono ?_
  unfold finE
  rw [ex9.1, show chk 16777216 ([18, 255] : List Int).length = 0 from ex9.2]
  rintro e w11 ⟨a11, k11, rfl, R11, g11⟩
  have E11 : Ext w w11 := ((E10.alloc _).alloc _).trans g11
  have R11' : Rd8 w11 (.slice a11 1 k11) [19] := R11
  go_wp2_with fail
  have S11 : Rd8 (w11.alloc (.cells #[.int .u8 19] 5)) (.slice (some ⟨w11.heap.size, 0, none⟩) 1 1) [19] := Rd8.new w11 _ [19] 1 rfl (by decide)
  refine (same_any _ _ [19] [19] _ (Rd.alloc R11' _) S11).mono ?_
  rintro e w12 ⟨rfl, g12⟩
  have E12 : Ext w w12 := (E11.alloc _).trans g12
  go_wp2_with fail
  go_ret
  exact ⟨rfl, E12⟩
end Go.Proofs.Ytnodnfmgklkjeaa
