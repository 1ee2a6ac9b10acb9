/- Layer 35: the chapter's examples. -/
import Derived.Test.YtlnlffmlficjnaaLv
import Derived.Test.YtlnlffmlficjnaaLw
import Derived.Lib.SlBytesConst
import Derived.Lib.SmallJoins
namespace Go.Proofs.Ytlnlffmlficjnaa
open Go.RowKit
set_option linter.unusedVariables false
attribute [local go_sem ↓] Go.wp_at_zero Go.wp_at_succ

theorem rd_litG (w : World) (t : TypeId) (fr : Nat × Nat) (sz n : Nat) (cs : List Value) (hc : cs.length = n * sz) (hn : n ≤ 1000) (hz : 0 < sz) : Rd (w.alloc (.cells cs.toArray t fr)) sz (.slice (some ⟨w.heap.size, 0, none⟩) n n) n cs := by
  refine ⟨hc, some ⟨w.heap.size, 0, none⟩, n, rfl, Nat.le_refl _, by unfold maxLen; omega, (fun e => by cases e), fun _ => ⟨w.heap.size, 0, rfl, by simp, fun j hj => ?_⟩⟩
  rw [Nat.zero_add, World.cell?_alloc_mark]
  simp [List.getD, hj]
def exL : List (Int × Int × Int) := [(0, 0, 97), (0, 0, 98), (5, 2, 0)]
theorem exL_ok : OkTs exL := by
  intro x hx
  simp [exL] at hx
  rcases hx with rfl | rfl | rfl <;> exact ⟨⟨by decide, by decide⟩, ⟨by decide, by decide⟩, by decide, by decide⟩
theorem lev1 : expF exL = (0, [97, 98, 97, 98, 97, 98, 97]) := by decide +kernel
theorem lev2 : encF exL = (0, [48, 152, 164, 64]) := by decide +kernel
theorem lev3 : grF [97, 97, 97, 97] = (0, [(0, 0, 97), (3, 1, 0)]) := by decide +kernel
theorem lev4 : decF [0] = (9, []) := by decide +kernel
theorem lev5 : decF [48, 152] = (9, []) := by decide +kernel
theorem lev6 : prc (0, 0, 97) = 9 := by decide +kernel
theorem lev7 : prc (5, 2, 0) = 9 := by decide +kernel
theorem lev8 : prc (3, 1, 0) = 5 := by decide +kernel
theorem by4 : Bytes [97, 97, 97, 97] := by intro x hx; simp at hx; omega
theorem by1 : Bytes [0] := by intro x hx; simp at hx; omega
theorem by2 : Bytes [48, 152] := by intro x hx; simp at hx; omega
theorem str1 : strOfNums [97, 98, 97, 98, 97, 98, 97] = ⟨#[97, 98, 97, 98, 97, 98, 97]⟩ := by rfl
theorem str2 : strOfNums [48, 152, 164, 64] = ⟨#[48, 152, 164, 64]⟩ := by rfl

set_option maxRecDepth 100000 in
set_option maxHeartbeats 4000000 in
theorem awake_any (w : World) : Calls Try.prog 12 #[] w fun x w' => x = .returned (.bool true) ∧ Ext w w' := by
  have L0 : Toks (w.alloc (.cells #[.int .i64 0, .int .i64 0, .int .u8 97, .int .i64 0, .int .i64 0, .int .u8 98, .int .i64 5, .int .i64 2, .int .u8 0] 27)) (.slice (some ⟨w.heap.size, 0, none⟩) 3 3) exL := rd_litG w 27 (0, 0) 3 3 (exL.flatMap tkc) rfl (by omega) (by omega)
  have X0 := hidden ((Ext.refl w).alloc (.cells #[.int .i64 0, .int .i64 0, .int .u8 97, .int .i64 0, .int .i64 0, .int .u8 98, .int .i64 5, .int .i64 2, .int .u8 0] 27))
  replace L0 := hidden L0
  go_enter Try.func12, Try.ntmps12
  go_wp2_with fail
  refine (lexpand_any _ exL exL_ok _ L0.out).mono ?_
  rw [lev1]
  rintro e w1 ⟨v1, rfl, O1, g1⟩
  obtain ⟨a1, c1, rfl, -, -, -⟩ := Rd.shape O1.rd
  have L1 := hidden (Rd.ext L0.out g1)
  have X1 := hidden (X0.out.trans g1)
  have R1 : Hid (Rd8 w1 (.slice a1 7 c1) [97, 98, 97, 98, 97, 98, 97]) := hidden O1.rd
  clear L0 X0 O1 g1
  go_wp2_with fail
  refine (lencode_any _ exL exL_ok (by decide) _ L1.out).mono ?_
  rw [lev2]
  rintro e w2 ⟨v2, rfl, O2, g2⟩
  obtain ⟨a2, c2, rfl, -, -, -⟩ := Rd.shape O2.rd
  have L2 := hidden (Rd.ext L1.out g2)
  have X2 := hidden (X1.out.trans g2)
  have R2 : Hid (Rd8 w2 (.slice a1 7 c1) [97, 98, 97, 98, 97, 98, 97]) := hidden (Rd.ext R1.out g2)
  have S2 : Hid (Rd8 w2 (.slice a2 4 c2) [48, 152, 164, 64]) := hidden O2.rd
  clear L1 X1 R1 O2 g2
  have G2 : Hid (Rd8 (w2.alloc (.cells #[.int .u8 97, .int .u8 97, .int .u8 97, .int .u8 97] 5 (4, 5))) (.slice (some ⟨w2.heap.size, 0, none⟩) 4 4) [97, 97, 97, 97]) := hidden (rd_litG w2 5 (4, 5) 1 4 (bs [97, 97, 97, 97]) rfl (by omega) (by omega))
  have E2 := hidden ((Ext.refl w2).alloc (.cells #[.int .u8 97, .int .u8 97, .int .u8 97, .int .u8 97] 5 (4, 5)))
  have kc : (convert 28 28 (.slice (some ⟨w2.heap.size, 0, none⟩) 4 4)).run Try.prog (w2.alloc (.cells #[.int .u8 97, .int .u8 97, .int .u8 97, .int .u8 97] 5)) = .ok (.slice (some ⟨w2.heap.size, 0, none⟩) 4 4) (w2.alloc (.cells #[.int .u8 97, .int .u8 97, .int .u8 97, .int .u8 97] 5 (4, 5))) := Lib.run_convert_bytes_const (P := Try.prog) w2 28 5 #[.int .u8 97, .int .u8 97, .int .u8 97, .int .u8 97] 4 4 Try.underlying28 Try.underlying5
  go_wp2_with fail
  refine (lgreedy_any _ [97, 97, 97, 97] by4 (by decide) _ G2.out).mono ?_
  rw [lev3]
  rintro e w3 ⟨v3, rfl, O3, g3⟩
  obtain ⟨a3, c3, rfl, -, -, -⟩ := Rd.shape O3.toks
  have g3' := E2.out.trans g3
  have L3 := hidden (Rd.ext L2.out g3')
  have X3 := hidden (X2.out.trans g3')
  have R3 : Hid (Rd8 w3 (.slice a1 7 c1) [97, 98, 97, 98, 97, 98, 97]) := hidden (Rd.ext R2.out g3')
  have S3 : Hid (Rd8 w3 (.slice a2 4 c2) [48, 152, 164, 64]) := hidden (Rd.ext S2.out g3')
  have T3 : Hid (Toks w3 (.slice a3 2 c3) [(0, 0, 97), (3, 1, 0)]) := hidden O3.toks
  clear L2 X2 R2 S2 O3 g3 G2 E2 kc g3'
  have G3 : Hid (Rd8 (w3.alloc (.cells #[.int .u8 0] 5)) (.slice (some ⟨w3.heap.size, 0, none⟩) 1 1) [0]) := hidden (rd_litG w3 5 (0, 0) 1 1 (bs [0]) rfl (by omega) (by omega))
  have E3 := hidden ((Ext.refl w3).alloc (.cells #[.int .u8 0] 5))
  go_wp2_with fail
  refine (ldecode_any _ [0] by1 (by decide) _ G3.out).mono ?_
  rw [lev4]
  rintro e w4 ⟨v4, rfl, O4, g4⟩
  obtain ⟨a4, c4, rfl, -, -, -⟩ := Rd.shape O4.toks
  have g4' := E3.out.trans g4
  have L4 := hidden (Rd.ext L3.out g4')
  have X4 := hidden (X3.out.trans g4')
  have R4 : Hid (Rd8 w4 (.slice a1 7 c1) [97, 98, 97, 98, 97, 98, 97]) := hidden (Rd.ext R3.out g4')
  have S4 : Hid (Rd8 w4 (.slice a2 4 c2) [48, 152, 164, 64]) := hidden (Rd.ext S3.out g4')
  have T4 : Hid (Toks w4 (.slice a3 2 c3) [(0, 0, 97), (3, 1, 0)]) := hidden (Rd.ext T3.out g4')
  clear L3 X3 R3 S3 T3 O4 g4 G3 E3 g4'
  have G4 : Hid (Rd8 (w4.alloc (.cells #[.int .u8 48, .int .u8 152] 5)) (.slice (some ⟨w4.heap.size, 0, none⟩) 2 2) [48, 152]) := hidden (rd_litG w4 5 (0, 0) 1 2 (bs [48, 152]) rfl (by omega) (by omega))
  have E4 := hidden ((Ext.refl w4).alloc (.cells #[.int .u8 48, .int .u8 152] 5))
  go_wp2_with fail
  refine (ldecode_any _ [48, 152] by2 (by decide) _ G4.out).mono ?_
  rw [lev5]
  rintro e w5 ⟨v5, rfl, O5, g5⟩
  obtain ⟨a5, c5, rfl, -, -, -⟩ := Rd.shape O5.toks
  have g5' := E4.out.trans g5
  have L5 := hidden (Rd.ext L4.out g5')
  have X5 := hidden (X4.out.trans g5')
  have R5 : Rd8 w5 (.slice a1 7 c1) [97, 98, 97, 98, 97, 98, 97] := Rd.ext R4.out g5'
  have S5 : Rd8 w5 (.slice a2 4 c2) [48, 152, 164, 64] := Rd.ext S4.out g5'
  have T5 : Hid (Toks w5 (.slice a3 2 c3) [(0, 0, 97), (3, 1, 0)]) := hidden (Rd.ext T4.out g5')
  have h1 := str_of R5
  have h2 := str_of S5
  rw [str1] at h1
  rw [str2] at h2
  obtain ⟨⟨y0, y1, y2⟩, ⟨y3, y4, y5⟩⟩ := And.intro (rd3_at tkc_len (show Rd w5 3 (.slice (some ⟨w.heap.size, 0, none⟩) 3 3) 3 (exL.flatMap tkc) from L5.out) 0 (0, 0, 97) rfl _ _ _ rfl) (rd3_at tkc_len (show Rd w5 3 (.slice (some ⟨w.heap.size, 0, none⟩) 3 3) 3 (exL.flatMap tkc) from L5.out) 2 (5, 2, 0) rfl _ _ _ rfl)
  simp only [Nat.zero_mul, Nat.zero_add] at y0 y1 y2 y3 y4 y5
  clear L4 X4 R4 S4 T4 R5 S5 O5 g5 G4 E4 g5'
  go_wp2_with fail
  refine (lprice_any 0 0 97 _).mono ?_
  rw [lev6]
  rintro e w6 ⟨rfl, g6⟩
  replace y3 := g6.cell y3
  replace y4 := g6.cell y4
  replace y5 := g6.cell y5
  have X6 := hidden (X5.out.trans g6)
  have T6 := hidden (Rd.ext T5.out g6)
  clear h1 h2 y0 y1 y2 X5 T5 g6 L5
  go_wp2_with fail
  refine (lprice_any 5 2 0 _).mono ?_
  rw [lev7]
  rintro e w7 ⟨rfl, g7⟩
  have X7 := hidden (X6.out.trans g7)
  have T7 := hidden (Rd.ext T6.out g7)
  clear y3 y4 y5 X6 T6 g7
  go_wp2_with fail
  refine (lprice_any 3 1 0 _).mono ?_
  rw [lev8]
  rintro e w8 ⟨rfl, g8⟩
  have X8 := hidden (X7.out.trans g8)
  have A8 := (Ext.refl w8).alloc (.cells #[.int .i64 0, .int .i64 0, .int .u8 97, .int .i64 3, .int .i64 1, .int .u8 0] 27)
  have T8 : Hid (Toks (w8.alloc (.cells #[.int .i64 0, .int .i64 0, .int .u8 97, .int .i64 3, .int .i64 1, .int .u8 0] 27)) (.slice a3 2 c3) [(0, 0, 97), (3, 1, 0)]) := hidden (Rd.ext (Rd.ext T7.out g8) A8)
  have U8 : Hid (Toks (w8.alloc (.cells #[.int .i64 0, .int .i64 0, .int .u8 97, .int .i64 3, .int .i64 1, .int .u8 0] 27)) (.slice (some ⟨w8.heap.size, 0, none⟩) 2 2) [(0, 0, 97), (3, 1, 0)]) := hidden (rd_litG w8 27 (0, 0) 3 2 (List.flatMap tkc [(0, 0, 97), (3, 1, 0)]) rfl (by omega) (by omega))
  replace A8 := hidden A8
  clear X7 T7 g8
  go_wp2_with fail
  refine (sameT_any _ _ _ _ (by decide) (by decide) _ T8.out U8.out).mono ?_
  rintro e w9 ⟨rfl, g9⟩
  have X9 := hidden ((X8.out.trans A8.out).trans g9)
  clear T8 U8 A8 g9
  go_wp2_with fail
  go_ret
  exact ⟨ret_bool (by simp), X9.out⟩
end Go.Proofs.Ytlnlffmlficjnaa
