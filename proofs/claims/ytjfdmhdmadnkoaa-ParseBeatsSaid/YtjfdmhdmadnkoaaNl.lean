/- Layer 36: the examples of the chapter. -/
import Derived.Test.YtjfdmhdmadnkoaaNk
import Derived.Test.YtjfdmhdmadnkoaaLx
import Derived.Lib.SlBytesConst
namespace Go.Proofs.Ytjfdmhdmadnkoaa
open Go.RowKit
set_option linter.unusedVariables false
attribute [local go_sem ↓] Go.wp_at_zero Go.wp_at_succ

theorem pev1 : chE [97, 98, 97, 98] 2 = (0, [(0, 0, 97), (2, 2, 0)]) := by decide +kernel
theorem pev2 : chE [97, 98, 97, 98] 3 = (0, [(0, 0, 98)]) := by decide +kernel
theorem pev3 : potE [97, 97, 97, 97] = (0, [14, 5, 3, 9, 0]) := by decide +kernel
theorem pev4 : optE [97, 97, 97, 97] = (0, [(0, 0, 97), (3, 1, 0)], 14) := by decide +kernel
theorem pev5 : cerF [97, 97, 97, 97] [(0, 0, 97), (3, 1, 0)] [14, 5, 3, 9, 0] = 0 := by decide +kernel
theorem pev6 : cerF [97, 97, 97, 97] [(0, 0, 97), (3, 1, 0)] [14, 5, 0, 2, 0] = 0 := by decide +kernel
theorem pev7 : cerF [97, 97, 97, 97] [(0, 0, 97), (3, 1, 0)] [15, 5, 3, 9, 0] = 18 := by decide +kernel
theorem pby1 : Bytes [97, 98, 97, 98] := by intro x hx; simp at hx; omega
theorem pby2 : Bytes [97, 97, 97, 97] := by intro x hx; simp at hx; omega
theorem pok1 : OkTs [(0, 0, 97), (3, 1, 0)] := by
  intro x hx
  simp only [List.mem_cons, List.not_mem_nil, or_false] at hx
  rcases hx with rfl | rfl <;> exact ⟨⟨by decide, by decide⟩, ⟨by decide, by decide⟩, by decide, by decide⟩
theorem rd_litI (w : World) (l : List Int) (hn : l.length ≤ 1000) : RdI (w.alloc (.cells (l.map (Value.int .i64)).toArray 3)) (.slice (some ⟨w.heap.size, 0, none⟩) l.length l.length) l :=
  rd_litG w 3 (0, 0) 1 l.length (l.map (Value.int .i64)) (by simp) hn (by omega)

set_option maxRecDepth 100000 in
set_option maxHeartbeats 8000000 in
theorem pawake_any (w : World) : Calls Try.prog 10 #[] w fun x w' => x = .returned (.bool true) ∧ Ext w w' := by
  have G0 : Hid (Rd8 (w.alloc (.cells #[.int .u8 97, .int .u8 98, .int .u8 97, .int .u8 98] 5 (4, 5))) (.slice (some ⟨w.heap.size, 0, none⟩) 4 4) [97, 98, 97, 98]) := hidden (rd_litG w 5 (4, 5) 1 4 (bs [97, 98, 97, 98]) rfl (by omega) (by omega))
  have E0 := hidden ((Ext.refl w).alloc (.cells #[.int .u8 97, .int .u8 98, .int .u8 97, .int .u8 98] 5 (4, 5)))
  have kc : (convert 22 22 (.slice (some ⟨w.heap.size, 0, none⟩) 4 4)).run Try.prog (w.alloc (.cells #[.int .u8 97, .int .u8 98, .int .u8 97, .int .u8 98] 5)) = .ok (.slice (some ⟨w.heap.size, 0, none⟩) 4 4) (w.alloc (.cells #[.int .u8 97, .int .u8 98, .int .u8 97, .int .u8 98] 5 (4, 5))) := Lib.run_convert_bytes_const (P := Try.prog) w 22 5 #[.int .u8 97, .int .u8 98, .int .u8 97, .int .u8 98] 4 4 Try.underlying22 Try.underlying5
  go_enter Try.func10, Try.ntmps10
  go_wp2_with fail
  refine (pchoices_any _ [97, 98, 97, 98] 2 pby1 (by decide) _ G0.out).mono ?_
  rw [pev1]
  rintro e w1 ⟨v1, rfl, O1, g1⟩
  obtain ⟨a1, c1, rfl, -, -, -⟩ := Rd.shape O1.toks
  have X1 := hidden (E0.out.trans g1)
  have T1 : Hid (Toks w1 (.slice a1 2 c1) [(0, 0, 97), (2, 2, 0)]) := hidden O1.toks
  clear O1 g1 G0 E0 kc
  have G1 : Hid (Rd8 (w1.alloc (.cells #[.int .u8 97, .int .u8 98, .int .u8 97, .int .u8 98] 5 (4, 5))) (.slice (some ⟨w1.heap.size, 0, none⟩) 4 4) [97, 98, 97, 98]) := hidden (rd_litG w1 5 (4, 5) 1 4 (bs [97, 98, 97, 98]) rfl (by omega) (by omega))
  have E1 := hidden ((Ext.refl w1).alloc (.cells #[.int .u8 97, .int .u8 98, .int .u8 97, .int .u8 98] 5 (4, 5)))
  have kc : (convert 22 22 (.slice (some ⟨w1.heap.size, 0, none⟩) 4 4)).run Try.prog (w1.alloc (.cells #[.int .u8 97, .int .u8 98, .int .u8 97, .int .u8 98] 5)) = .ok (.slice (some ⟨w1.heap.size, 0, none⟩) 4 4) (w1.alloc (.cells #[.int .u8 97, .int .u8 98, .int .u8 97, .int .u8 98] 5 (4, 5))) := Lib.run_convert_bytes_const (P := Try.prog) w1 22 5 #[.int .u8 97, .int .u8 98, .int .u8 97, .int .u8 98] 4 4 Try.underlying22 Try.underlying5
  go_wp2_with fail
  refine (pchoices_any _ [97, 98, 97, 98] 3 pby1 (by decide) _ G1.out).mono ?_
  rw [pev2]
  rintro e w2 ⟨v2, rfl, O2, g2⟩
  obtain ⟨a2, c2, rfl, -, -, -⟩ := Rd.shape O2.toks
  have x2 := E1.out.trans g2
  have X2 := hidden (X1.out.trans x2)
  have T2 : Hid (Toks w2 (.slice a1 2 c1) [(0, 0, 97), (2, 2, 0)]) := hidden (Rd.ext T1.out x2)
  have U2 : Hid (Toks w2 (.slice a2 1 c2) [(0, 0, 98)]) := hidden O2.toks
  clear O2 g2 G1 E1 kc X1 T1 x2
  have G2 : Hid (Rd8 (w2.alloc (.cells #[.int .u8 97, .int .u8 97, .int .u8 97, .int .u8 97] 5 (4, 5))) (.slice (some ⟨w2.heap.size, 0, none⟩) 4 4) [97, 97, 97, 97]) := hidden (rd_litG w2 5 (4, 5) 1 4 (bs [97, 97, 97, 97]) rfl (by omega) (by omega))
  have E2 := hidden ((Ext.refl w2).alloc (.cells #[.int .u8 97, .int .u8 97, .int .u8 97, .int .u8 97] 5 (4, 5)))
  have kc : (convert 22 22 (.slice (some ⟨w2.heap.size, 0, none⟩) 4 4)).run Try.prog (w2.alloc (.cells #[.int .u8 97, .int .u8 97, .int .u8 97, .int .u8 97] 5)) = .ok (.slice (some ⟨w2.heap.size, 0, none⟩) 4 4) (w2.alloc (.cells #[.int .u8 97, .int .u8 97, .int .u8 97, .int .u8 97] 5 (4, 5))) := Lib.run_convert_bytes_const (P := Try.prog) w2 22 5 #[.int .u8 97, .int .u8 97, .int .u8 97, .int .u8 97] 4 4 Try.underlying22 Try.underlying5
  go_wp2_with fail
  refine (ppot_any _ [97, 97, 97, 97] pby2 (by decide) _ G2.out).mono ?_
  rw [pev3]
  rintro e w3 ⟨v3, rfl, O3, g3⟩
  obtain ⟨a3, c3, rfl, -, -, -⟩ := Rd.shape O3.rd
  have x3 := E2.out.trans g3
  have X3 := hidden (X2.out.trans x3)
  have T3 : Hid (Toks w3 (.slice a1 2 c1) [(0, 0, 97), (2, 2, 0)]) := hidden (Rd.ext T2.out x3)
  have U3 : Hid (Toks w3 (.slice a2 1 c2) [(0, 0, 98)]) := hidden (Rd.ext U2.out x3)
  have P3 : Hid (RdI w3 (.slice a3 5 c3) [14, 5, 3, 9, 0]) := hidden O3.rd
  clear O3 g3 G2 E2 kc X2 T2 U2 x3
  have G3 : Hid (Rd8 (w3.alloc (.cells #[.int .u8 97, .int .u8 97, .int .u8 97, .int .u8 97] 5 (4, 5))) (.slice (some ⟨w3.heap.size, 0, none⟩) 4 4) [97, 97, 97, 97]) := hidden (rd_litG w3 5 (4, 5) 1 4 (bs [97, 97, 97, 97]) rfl (by omega) (by omega))
  have E3 := hidden ((Ext.refl w3).alloc (.cells #[.int .u8 97, .int .u8 97, .int .u8 97, .int .u8 97] 5 (4, 5)))
  have kc : (convert 22 22 (.slice (some ⟨w3.heap.size, 0, none⟩) 4 4)).run Try.prog (w3.alloc (.cells #[.int .u8 97, .int .u8 97, .int .u8 97, .int .u8 97] 5)) = .ok (.slice (some ⟨w3.heap.size, 0, none⟩) 4 4) (w3.alloc (.cells #[.int .u8 97, .int .u8 97, .int .u8 97, .int .u8 97] 5 (4, 5))) := Lib.run_convert_bytes_const (P := Try.prog) w3 22 5 #[.int .u8 97, .int .u8 97, .int .u8 97, .int .u8 97] 4 4 Try.underlying22 Try.underlying5
  go_wp2_with fail
  refine (popt_any _ [97, 97, 97, 97] pby2 (by decide) _ G3.out).mono ?_
  rw [pev4]
  rintro e w4 ⟨v4, rfl, O4, g4⟩
  obtain ⟨a4, c4, rfl, -, -, -⟩ := Rd.shape O4.toks
  have x4 := E3.out.trans g4
  have X4 := hidden (X3.out.trans x4)
  have A4 := (Ext.refl w4).alloc (.cells #[.int .i64 0, .int .i64 0, .int .u8 97, .int .i64 2, .int .i64 2, .int .u8 0] 60)
  have T4 : Hid (Toks (w4.alloc (.cells #[.int .i64 0, .int .i64 0, .int .u8 97, .int .i64 2, .int .i64 2, .int .u8 0] 60)) (.slice a1 2 c1) [(0, 0, 97), (2, 2, 0)]) := hidden (Rd.ext (Rd.ext T3.out x4) A4)
  have Q4 : Hid (Toks (w4.alloc (.cells #[.int .i64 0, .int .i64 0, .int .u8 97, .int .i64 2, .int .i64 2, .int .u8 0] 60)) (.slice (some ⟨w4.heap.size, 0, none⟩) 2 2) [(0, 0, 97), (2, 2, 0)]) := hidden (rd_litG w4 60 (0, 0) 3 2 (List.flatMap tkc [(0, 0, 97), (2, 2, 0)]) rfl (by omega) (by omega))
  have U4 : Hid (Toks w4 (.slice a2 1 c2) [(0, 0, 98)]) := hidden (Rd.ext U3.out x4)
  have P4 : Hid (RdI w4 (.slice a3 5 c3) [14, 5, 3, 9, 0]) := hidden (RdI.ext P3.out x4)
  have L4 : Hid (Toks w4 (.slice a4 2 c4) [(0, 0, 97), (3, 1, 0)]) := hidden O4.toks
  replace A4 := hidden A4
  clear O4 g4 G3 E3 kc X3 T3 U3 P3 x4
  go_wp2_with fail
  refine (sameT_any _ _ _ _ (by decide) (by decide) _ T4.out Q4.out).mono ?_
  rintro e w5 ⟨rfl, g5⟩
  have x5 := A4.out.trans g5
  have A5 := (Ext.refl w5).alloc (.cells #[.int .i64 0, .int .i64 0, .int .u8 98] 60)
  have X5 := hidden (X4.out.trans x5)
  have U5 : Hid (Toks (w5.alloc (.cells #[.int .i64 0, .int .i64 0, .int .u8 98] 60)) (.slice a2 1 c2) [(0, 0, 98)]) := hidden (Rd.ext (Rd.ext U4.out x5) A5)
  have Q5 : Hid (Toks (w5.alloc (.cells #[.int .i64 0, .int .i64 0, .int .u8 98] 60)) (.slice (some ⟨w5.heap.size, 0, none⟩) 1 1) [(0, 0, 98)]) := hidden (rd_litG w5 60 (0, 0) 3 1 (List.flatMap tkc [(0, 0, 98)]) rfl (by omega) (by omega))
  have P5 : Hid (RdI w5 (.slice a3 5 c3) [14, 5, 3, 9, 0]) := hidden (RdI.ext P4.out x5)
  have L5 : Hid (Toks w5 (.slice a4 2 c4) [(0, 0, 97), (3, 1, 0)]) := hidden (Rd.ext L4.out x5)
  replace A5 := hidden A5
  clear T4 Q4 U4 P4 L4 A4 X4 g5 x5
  go_wp2_with fail
  refine (sameT_any _ _ _ _ (by decide) (by decide) _ U5.out Q5.out).mono ?_
  rintro e w6 ⟨rfl, g6⟩
  have x6 := A5.out.trans g6
  have X6 := hidden (X5.out.trans x6)
  have P6 : Hid (RdI w6 (.slice a3 5 c3) [14, 5, 3, 9, 0]) := hidden (RdI.ext P5.out x6)
  have L6 : Hid (Toks w6 (.slice a4 2 c4) [(0, 0, 97), (3, 1, 0)]) := hidden (Rd.ext L5.out x6)
  have A6 := (Ext.refl w6).alloc (.cells #[.int .i64 14, .int .i64 5, .int .i64 3, .int .i64 9, .int .i64 0] 3)
  have P6' : Hid (RdI (w6.alloc (.cells #[.int .i64 14, .int .i64 5, .int .i64 3, .int .i64 9, .int .i64 0] 3)) (.slice a3 5 c3) [14, 5, 3, 9, 0]) := hidden (RdI.ext P6.out A6)
  have Q6 : Hid (RdI (w6.alloc (.cells #[.int .i64 14, .int .i64 5, .int .i64 3, .int .i64 9, .int .i64 0] 3)) (.slice (some ⟨w6.heap.size, 0, none⟩) 5 5) [14, 5, 3, 9, 0]) := hidden (rd_litI w6 [14, 5, 3, 9, 0] (by decide))
  replace A6 := hidden A6
  clear U5 Q5 P5 L5 A5 X5 g6 x6
  go_wp2_with fail
  refine (sameI_any _ _ _ _ _ P6'.out Q6.out).mono ?_
  rintro e w7 ⟨rfl, g7⟩
  have x7 := A6.out.trans g7
  have X7 := hidden (X6.out.trans x7)
  have P7 : Hid (RdI w7 (.slice a3 5 c3) [14, 5, 3, 9, 0]) := hidden (RdI.ext P6.out x7)
  have A7 := (Ext.refl w7).alloc (.cells #[.int .i64 0, .int .i64 0, .int .u8 97, .int .i64 3, .int .i64 1, .int .u8 0] 60)
  have L7 : Hid (Toks w7 (.slice a4 2 c4) [(0, 0, 97), (3, 1, 0)]) := hidden (Rd.ext L6.out x7)
  have L7' : Hid (Toks (w7.alloc (.cells #[.int .i64 0, .int .i64 0, .int .u8 97, .int .i64 3, .int .i64 1, .int .u8 0] 60)) (.slice a4 2 c4) [(0, 0, 97), (3, 1, 0)]) := hidden (Rd.ext L7.out A7)
  have Q7 : Hid (Toks (w7.alloc (.cells #[.int .i64 0, .int .i64 0, .int .u8 97, .int .i64 3, .int .i64 1, .int .u8 0] 60)) (.slice (some ⟨w7.heap.size, 0, none⟩) 2 2) [(0, 0, 97), (3, 1, 0)]) := hidden (rd_litG w7 60 (0, 0) 3 2 (List.flatMap tkc [(0, 0, 97), (3, 1, 0)]) rfl (by omega) (by omega))
  replace A7 := hidden A7
  clear P6 P6' Q6 L6 A6 X6 g7 x7
  go_wp2_with fail
  refine (sameT_any _ _ _ _ (by decide) (by decide) _ L7'.out Q7.out).mono ?_
  rintro e w8 ⟨rfl, g8⟩
  have x8 := A7.out.trans g8
  have X8 := hidden (X7.out.trans x8)
  have P8 : Hid (RdI w8 (.slice a3 5 c3) [14, 5, 3, 9, 0]) := hidden (RdI.ext P7.out x8)
  have L8 : Hid (Toks w8 (.slice a4 2 c4) [(0, 0, 97), (3, 1, 0)]) := hidden (Rd.ext L7.out x8)
  clear P7 L7 L7' Q7 A7 X7 g8 x8
  have G8 : Hid (Rd8 (w8.alloc (.cells #[.int .u8 97, .int .u8 97, .int .u8 97, .int .u8 97] 5 (4, 5))) (.slice (some ⟨w8.heap.size, 0, none⟩) 4 4) [97, 97, 97, 97]) := hidden (rd_litG w8 5 (4, 5) 1 4 (bs [97, 97, 97, 97]) rfl (by omega) (by omega))
  have E8 := hidden ((Ext.refl w8).alloc (.cells #[.int .u8 97, .int .u8 97, .int .u8 97, .int .u8 97] 5 (4, 5)))
  have kc : (convert 22 22 (.slice (some ⟨w8.heap.size, 0, none⟩) 4 4)).run Try.prog (w8.alloc (.cells #[.int .u8 97, .int .u8 97, .int .u8 97, .int .u8 97] 5)) = .ok (.slice (some ⟨w8.heap.size, 0, none⟩) 4 4) (w8.alloc (.cells #[.int .u8 97, .int .u8 97, .int .u8 97, .int .u8 97] 5 (4, 5))) := Lib.run_convert_bytes_const (P := Try.prog) w8 22 5 #[.int .u8 97, .int .u8 97, .int .u8 97, .int .u8 97] 4 4 Try.underlying22 Try.underlying5
  go_wp2_with fail
  refine (pcert_any _ _ _ [97, 97, 97, 97] [14, 5, 3, 9, 0] [(0, 0, 97), (3, 1, 0)] pby2 pok1 (by decide) (by decide) _ G8.out (Rd.ext L8.out E8.out) (RdI.ext P8.out E8.out)).mono ?_
  rw [pev5]
  rintro e w9 ⟨rfl, g⟩
  have x := E8.out.trans g
  have X9 := hidden (X8.out.trans x)
  have P9 : Hid (RdI w9 (.slice a3 5 c3) [14, 5, 3, 9, 0]) := hidden (RdI.ext P8.out x)
  have L9 : Hid (Toks w9 (.slice a4 2 c4) [(0, 0, 97), (3, 1, 0)]) := hidden (Rd.ext L8.out x)
  clear P8 L8 X8 G8 E8 kc g x
  have G9 : Hid (Rd8 (w9.alloc (.cells #[.int .u8 97, .int .u8 97, .int .u8 97, .int .u8 97] 5 (4, 5))) (.slice (some ⟨w9.heap.size, 0, none⟩) 4 4) [97, 97, 97, 97]) := hidden (rd_litG w9 5 (4, 5) 1 4 (bs [97, 97, 97, 97]) rfl (by omega) (by omega))
  have E9 := hidden ((Ext.refl w9).alloc (.cells #[.int .u8 97, .int .u8 97, .int .u8 97, .int .u8 97] 5 (4, 5)))
  have kc : (convert 22 22 (.slice (some ⟨w9.heap.size, 0, none⟩) 4 4)).run Try.prog (w9.alloc (.cells #[.int .u8 97, .int .u8 97, .int .u8 97, .int .u8 97] 5)) = .ok (.slice (some ⟨w9.heap.size, 0, none⟩) 4 4) (w9.alloc (.cells #[.int .u8 97, .int .u8 97, .int .u8 97, .int .u8 97] 5 (4, 5))) := Lib.run_convert_bytes_const (P := Try.prog) w9 22 5 #[.int .u8 97, .int .u8 97, .int .u8 97, .int .u8 97] 4 4 Try.underlying22 Try.underlying5
  have A9 := hidden ((Ext.refl (w9.alloc (.cells #[.int .u8 97, .int .u8 97, .int .u8 97, .int .u8 97] 5 (4, 5)))).alloc (.cells #[.int .i64 14, .int .i64 5, .int .i64 0, .int .i64 2, .int .i64 0] 3))
  have Q9 : Hid (RdI ((w9.alloc (.cells #[.int .u8 97, .int .u8 97, .int .u8 97, .int .u8 97] 5 (4, 5))).alloc (.cells #[.int .i64 14, .int .i64 5, .int .i64 0, .int .i64 2, .int .i64 0] 3)) (.slice (some ⟨w9.heap.size + 1, 0, none⟩) 5 5) [14, 5, 0, 2, 0]) := hidden (by have := rd_litI (w9.alloc (.cells #[.int .u8 97, .int .u8 97, .int .u8 97, .int .u8 97] 5 (4, 5))) [14, 5, 0, 2, 0] (by decide); rw [World.size_alloc] at this; exact this)
  have D9 := hidden (E9.out.trans A9.out)
  go_wp2_with fail
  refine (pcert_any _ _ _ [97, 97, 97, 97] [14, 5, 0, 2, 0] [(0, 0, 97), (3, 1, 0)] pby2 pok1 (by decide) (by decide) _ (Rd.ext G9.out A9.out) (Rd.ext L9.out D9.out) Q9.out).mono ?_
  rw [pev6]
  rintro e w10 ⟨rfl, g⟩
  have x := D9.out.trans g
  have X10 := hidden (X9.out.trans x)
  have P10 : Hid (RdI w10 (.slice a3 5 c3) [14, 5, 3, 9, 0]) := hidden (RdI.ext P9.out x)
  have L10 : Hid (Toks w10 (.slice a4 2 c4) [(0, 0, 97), (3, 1, 0)]) := hidden (Rd.ext L9.out x)
  clear P9 L9 X9 G9 E9 kc g x
  have G10 : Hid (Rd8 (w10.alloc (.cells #[.int .u8 97, .int .u8 97, .int .u8 97, .int .u8 97] 5 (4, 5))) (.slice (some ⟨w10.heap.size, 0, none⟩) 4 4) [97, 97, 97, 97]) := hidden (rd_litG w10 5 (4, 5) 1 4 (bs [97, 97, 97, 97]) rfl (by omega) (by omega))
  have E10 := hidden ((Ext.refl w10).alloc (.cells #[.int .u8 97, .int .u8 97, .int .u8 97, .int .u8 97] 5 (4, 5)))
  have kc : (convert 22 22 (.slice (some ⟨w10.heap.size, 0, none⟩) 4 4)).run Try.prog (w10.alloc (.cells #[.int .u8 97, .int .u8 97, .int .u8 97, .int .u8 97] 5)) = .ok (.slice (some ⟨w10.heap.size, 0, none⟩) 4 4) (w10.alloc (.cells #[.int .u8 97, .int .u8 97, .int .u8 97, .int .u8 97] 5 (4, 5))) := Lib.run_convert_bytes_const (P := Try.prog) w10 22 5 #[.int .u8 97, .int .u8 97, .int .u8 97, .int .u8 97] 4 4 Try.underlying22 Try.underlying5
  have A10 := hidden ((Ext.refl (w10.alloc (.cells #[.int .u8 97, .int .u8 97, .int .u8 97, .int .u8 97] 5 (4, 5)))).alloc (.cells #[.int .i64 15, .int .i64 5, .int .i64 3, .int .i64 9, .int .i64 0] 3))
  have Q10 : Hid (RdI ((w10.alloc (.cells #[.int .u8 97, .int .u8 97, .int .u8 97, .int .u8 97] 5 (4, 5))).alloc (.cells #[.int .i64 15, .int .i64 5, .int .i64 3, .int .i64 9, .int .i64 0] 3)) (.slice (some ⟨w10.heap.size + 1, 0, none⟩) 5 5) [15, 5, 3, 9, 0]) := hidden (by have := rd_litI (w10.alloc (.cells #[.int .u8 97, .int .u8 97, .int .u8 97, .int .u8 97] 5 (4, 5))) [15, 5, 3, 9, 0] (by decide); rw [World.size_alloc] at this; exact this)
  have D10 := hidden (E10.out.trans A10.out)
  go_wp2_with fail
  refine (pcert_any _ _ _ [97, 97, 97, 97] [15, 5, 3, 9, 0] [(0, 0, 97), (3, 1, 0)] pby2 pok1 (by decide) (by decide) _ (Rd.ext G10.out A10.out) (Rd.ext L10.out D10.out) Q10.out).mono ?_
  rw [pev7]
  rintro e w11 ⟨rfl, g⟩
  have x := D10.out.trans g
  have X11 := hidden (X10.out.trans x)
  have P11 : Hid (RdI w11 (.slice a3 5 c3) [14, 5, 3, 9, 0]) := hidden (RdI.ext P10.out x)
  have L11 : Hid (Toks w11 (.slice a4 2 c4) [(0, 0, 97), (3, 1, 0)]) := hidden (Rd.ext L10.out x)
  clear P10 L10 X10 G10 E10 kc g x
  go_wp2_with fail
  go_ret
  exact ⟨rfl, X11.out⟩
end Go.Proofs.Ytjfdmhdmadnkoaa
