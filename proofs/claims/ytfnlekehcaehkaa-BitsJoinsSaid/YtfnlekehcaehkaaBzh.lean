/- The law BitsJoins: the walk. -/
import Derived.Test.YtfnlekehcaehkaaBzg
import Derived.Test.YtfnlekehcaehkaaBzf
import Derived.Test.YtfnlekehcaehkaaBl
namespace Go.Proofs.Ytfnlekehcaehkaa
open Go.RowKit
set_option linter.unusedVariables false
attribute [local go_sem ↓] Go.wp_at_zero Go.wp_at_succ

theorem join_any (u v : Value) (A D : List Int) (x y : Int) (ha : Bytes A) (hb : Bytes D) (hla : A.length ≤ 60000) (hl : D.length ≤ 60000) (hx0 : -9223372036854775808 ≤ x) (hx1 : x ≤ 9223372036854775807) (hy0 : -9223372036854775808 ≤ y) (hy1 : y ≤ 9223372036854775807) (w : World) (hA : Rd8 w u A) (h : Rd8 w v D) :
    Calls Try.prog 18 #[.agg #[u, .int .i64 x], .agg #[v, .int .i64 y]] w (BitsPost w (joF A x D y)) := by
  by_cases hbad : chkb A x ≠ 0 ∨ chkb D y ≠ 0 ∨ 524288 < x + y
  · exact join_bad u v A D x y ha hb hla hl hx0 hx1 hy0 hy1 w hA h hbad
  · obtain ⟨k0, k1, hwa⟩ := chkb_wf ha (show chkb A x = 0 by omega)
    obtain ⟨k2, k3, hwf⟩ := chkb_wf hb (show chkb D y = 0 by omega)
    have hE : joF A x D y = (0, pshs A x.toNat (cut D 0 y.toNat), x.toNat + y.toNat) := by unfold joF; rw [if_neg (by omega), if_neg (by omega), if_neg (by omega)]
    rw [hE]
    have := join_good u v A D x.toNat y.toNat ha hb hla hl hwa hwf (by omega) (by omega) (by omega) w hA h
    rw [Int.toNat_of_nonneg k0, Int.toNat_of_nonneg k2] at this
    exact this

set_option maxHeartbeats 2000000 in
theorem BitsJoins_law (u : Value) (A : List Int) (x : Int) (v : Value) (D : List Int) (y : Int) (a b : Int) (ha : Bytes A) (hx0 : -9223372036854775808 ≤ x) (hx1 : x ≤ 9223372036854775807) (hb : Bytes D) (hy0 : -9223372036854775808 ≤ y) (hy1 : y ≤ 9223372036854775807) (ha0 : -9223372036854775808 ≤ a) (ha1 : a ≤ 9223372036854775807) (hb0 : -9223372036854775808 ≤ b) (hb1 : b ≤ 9223372036854775807) (w : World) (hA : Rd8 w u A) (h : Rd8 w v D) :
    Calls Try.prog 7 #[.agg #[u, .int .i64 x], .agg #[v, .int .i64 y], .agg #[.int .i64 a, .int .i64 b]] w fun x w' => x = .returned (.bool true) ∧ Ext w w' := by
  obtain ⟨aa, capa, rfl, qa1, qa2, qa3⟩ := Rd.shape hA
  obtain ⟨ad, cap, rfl, q1, q2, q3⟩ := Rd.shape h
  obtain ⟨e, X, n, hJ⟩ : ∃ e X n, joF A x D y = (e, X, n) := ⟨_, _, _, rfl⟩
  obtain ⟨f, Y, m, hS⟩ : ∃ e X n, slcF A x a b = (e, X, n) := ⟨_, _, _, rfl⟩
  obtain ⟨fa, hfa⟩ : ∃ fa, decide ((A.length : Int) ≤ 100) = fa := ⟨_, rfl⟩
  obtain ⟨fd, hfd⟩ : ∃ fd, decide ((D.length : Int) ≤ 100) = fd := ⟨_, rfl⟩
  have HJ := hidden hJ
  have HS := hidden hS
  have HA := hidden hfa
  have HD := hidden hfd
  clear hJ hS hfa hfd
  have PA : Blk (((w.alloc (.cells #[.slice aa A.length capa, .int .i64 x] 24)).alloc (.cells #[.slice ad D.length cap, .int .i64 y] 24)).alloc (.cells #[.int .i64 a, .int .i64 b] 47)) w.heap.size 24 [.slice aa A.length capa, .int .i64 x] := ((Blk.new w _ _).alloc _).alloc _
  have PB : Blk (((w.alloc (.cells #[.slice aa A.length capa, .int .i64 x] 24)).alloc (.cells #[.slice ad D.length cap, .int .i64 y] 24)).alloc (.cells #[.int .i64 a, .int .i64 b] 47)) (w.heap.size + 1) 24 [.slice ad D.length cap, .int .i64 y] := (Blk.newAt (w.alloc (.cells #[.slice aa A.length capa, .int .i64 x] 24)) [.slice ad D.length cap, .int .i64 y] 24 (w.heap.size + 1) (by simp)).alloc _
  have PX : Blk (((w.alloc (.cells #[.slice aa A.length capa, .int .i64 x] 24)).alloc (.cells #[.slice ad D.length cap, .int .i64 y] 24)).alloc (.cells #[.int .i64 a, .int .i64 b] 47)) (w.heap.size + 1 + 1) 47 [.int .i64 a, .int .i64 b] := Blk.newAt ((w.alloc (.cells #[.slice aa A.length capa, .int .i64 x] 24)).alloc (.cells #[.slice ad D.length cap, .int .i64 y] 24)) [.int .i64 a, .int .i64 b] 47 (w.heap.size + 1 + 1) (by simp)
  have RA : Rd8 (((w.alloc (.cells #[.slice aa A.length capa, .int .i64 x] 24)).alloc (.cells #[.slice ad D.length cap, .int .i64 y] 24)).alloc (.cells #[.int .i64 a, .int .i64 b] 47)) (.slice aa A.length capa) A := Rd.alloc (Rd.alloc (Rd.alloc hA _) _) _
  have RD : Rd8 (((w.alloc (.cells #[.slice aa A.length capa, .int .i64 x] 24)).alloc (.cells #[.slice ad D.length cap, .int .i64 y] 24)).alloc (.cells #[.int .i64 a, .int .i64 b] 47)) (.slice ad D.length cap) D := Rd.alloc (Rd.alloc (Rd.alloc h _) _) _
  have E0 : Ext w (((w.alloc (.cells #[.slice aa A.length capa, .int .i64 x] 24)).alloc (.cells #[.slice ad D.length cap, .int .i64 y] 24)).alloc (.cells #[.int .i64 a, .int .i64 b] 47)) := (((Ext.refl w).alloc _).alloc _).alloc _
  have p0 := PA.cell 0 _ rfl
  have p1 := PA.cell 1 _ rfl
  have p2 := PB.cell 0 _ rfl
  have p3 := PB.cell 1 _ rfl
  cases fa
  · go_enter Try.func7, Try.ntmps7
    go_wp2_with fail
    refine (few_any _ A x (by omega) _ RA).mono ?_
    rw [HA.out]
    rintro e1 w1 ⟨rfl, g1⟩
    have E1 := E0.trans g1
    go_wp2_with fail
    refine (awake_any _).mono ?_
    rintro e9 w9 ⟨rfl, g9⟩
    go_wp2_with fail
    go_ret
    exact ⟨rfl, E1.trans g9⟩
  · cases fd
    · go_enter Try.func7, Try.ntmps7
      go_wp2_with fail
      refine (few_any _ A x (by omega) _ RA).mono ?_
      rw [HA.out]
      rintro e1 w1 ⟨rfl, g1⟩
      have E1 := E0.trans g1
      have b2 := (PB.ext g1).cell 0 _ rfl
      have b3 := (PB.ext g1).cell 1 _ rfl
      clear p0 p1 p2 p3
      go_wp2_with fail
      refine (few_any _ D y (by omega) _ (RD.ext g1)).mono ?_
      rw [HD.out]
      rintro e2 w2 ⟨rfl, g2⟩
      have E2 := E1.trans g2
      go_wp2_with fail
      refine (awake_any _).mono ?_
      rintro e9 w9 ⟨rfl, g9⟩
      go_wp2_with fail
      go_ret
      exact ⟨rfl, E2.trans g9⟩
    · go_enter Try.func7, Try.ntmps7
      go_wp2_with fail
      refine (few_any _ A x (by omega) _ RA).mono ?_
      rw [HA.out]
      rintro e1 w1 ⟨rfl, g1⟩
      have E1 := E0.trans g1
      have b2 := (PB.ext g1).cell 0 _ rfl
      have b3 := (PB.ext g1).cell 1 _ rfl
      clear p0 p1 p2 p3
      go_wp2_with fail
      refine (few_any _ D y (by omega) _ (RD.ext g1)).mono ?_
      rw [HD.out]
      rintro e2 w2 ⟨rfl, g2⟩
      have E2 := E1.trans g2
      have hla : A.length ≤ 100 := by have := HA.out; simp at this; omega
      have hld : D.length ≤ 100 := by have := HD.out; simp at this; omega
      have hla := hidden hla
      have hld := hidden hld
      have g12 := g1.trans g2
      have c0 := (PA.ext g12).cell 0 _ rfl
      have c1 := (PA.ext g12).cell 1 _ rfl
      have c2 := (PB.ext g12).cell 0 _ rfl
      have c3 := (PB.ext g12).cell 1 _ rfl
      clear b2 b3
      go_wp2_with fail
      refine (join_any _ _ A D x y ha hb (by have := hla.out; omega) (by have := hld.out; omega) hx0 hx1 hy0 hy1 _ (RA.ext g12) (RD.ext g12)).mono ?_
      rw [HJ.out]
      rintro e3 w3 ⟨a3, k3, rfl, R3, F3, g3⟩
      have R3 : Rd8 w3 (.slice a3 X.length k3) X := R3
      have g3' := g3.alloc (.cells #[.slice a3 X.length k3, .int .i64 (n : Int)] 24)
      have B3 := Blk.new w3 [.slice a3 X.length k3, .int .i64 (n : Int)] 24
      have R3' := Rd.alloc R3 (.cells #[.slice a3 X.length k3, .int .i64 (n : Int)] 24)
      have g13 := g12.trans g3'
      have d0 := (PA.ext g13).cell 0 _ rfl
      have d1 := (PA.ext g13).cell 1 _ rfl
      have d2 := (PB.ext g13).cell 0 _ rfl
      have d3 := (PB.ext g13).cell 1 _ rfl
      clear c0 c1 c2 c3
      go_wp2_with fail
      refine (rjoin_any _ _ A D x y ha hb (by have := hla.out; omega) (by have := hld.out; omega) hx0 hx1 hy0 hy1 _ (RA.ext g13) (RD.ext g13)).mono ?_
      rw [HJ.out]
      rintro e4 w4 ⟨a4, k4, rfl, R4, F4, g4⟩
      have R4 : Rd8 w4 (.slice a4 X.length k4) X := R4
      have g4' := g4.alloc (.cells #[.slice a4 X.length k4, .int .i64 (n : Int)] 24)
      have B4 := Blk.new w4 [.slice a4 X.length k4, .int .i64 (n : Int)] 24
      have R4' := Rd.alloc R4 (.cells #[.slice a4 X.length k4, .int .i64 (n : Int)] 24)
      have g14 := g13.trans g4'
      have c0 := (PA.ext g14).cell 0 _ rfl
      have c1 := (PA.ext g14).cell 1 _ rfl
      have c2 := (PX.ext g14).cell 0 _ rfl
      have c3 := (PX.ext g14).cell 1 _ rfl
      clear d0 d1 d2 d3
      go_wp2_with fail
      refine (slice_any _ A x a b ha (by have := hla.out; omega) hx0 hx1 _ (RA.ext g14)).mono ?_
      rw [HS.out]
      rintro e5 w5 ⟨a5, k5, rfl, R5, F5, g5⟩
      have R5 : Rd8 w5 (.slice a5 Y.length k5) Y := R5
      have g5' := g5.alloc (.cells #[.slice a5 Y.length k5, .int .i64 (m : Int)] 24)
      have B5 := Blk.new w5 [.slice a5 Y.length k5, .int .i64 (m : Int)] 24
      have R5' := Rd.alloc R5 (.cells #[.slice a5 Y.length k5, .int .i64 (m : Int)] 24)
      have g15 := g14.trans g5'
      have d0 := (PA.ext g15).cell 0 _ rfl
      have d1 := (PA.ext g15).cell 1 _ rfl
      have d2 := (PX.ext g15).cell 0 _ rfl
      have d3 := (PX.ext g15).cell 1 _ rfl
      clear c0 c1 c2 c3
      go_wp2_with fail
      refine (rslice_any _ A x a b ha (by have := hla.out; omega) hx0 hx1 _ (RA.ext g15)).mono ?_
      rw [HS.out]
      rintro e6 w6 ⟨a6, k6, rfl, R6, F6, g6⟩
      have R6 : Rd8 w6 (.slice a6 Y.length k6) Y := R6
      have g6' := g6.alloc (.cells #[.slice a6 Y.length k6, .int .i64 (m : Int)] 24)
      have B6 := Blk.new w6 [.slice a6 Y.length k6, .int .i64 (m : Int)] 24
      have R6' := Rd.alloc R6 (.cells #[.slice a6 Y.length k6, .int .i64 (m : Int)] 24)
      have g16 := g15.trans g6'
      have g46 := g5'.trans g6'
      have g36 := g4'.trans g46
      have c0 := (B3.ext g36).cell 0 _ rfl
      have c1 := (B3.ext g36).cell 1 _ rfl
      have c2 := (B4.ext g46).cell 0 _ rfl
      have c3 := (B4.ext g46).cell 1 _ rfl
      clear d0 d1 d2 d3
      go_wp2_with fail
      refine (rsame_same _ _ _ X _ (R3'.ext g36) (R4'.ext g46)).mono ?_
      rintro e7 w7 ⟨rfl, g7⟩
      have d0 := (B5.ext (g6'.trans g7)).cell 0 _ rfl
      have d1 := (B5.ext (g6'.trans g7)).cell 1 _ rfl
      have d2 := (B6.ext g7).cell 0 _ rfl
      have d3 := (B6.ext g7).cell 1 _ rfl
      clear c0 c1 c2 c3
      go_wp2_with fail
      refine (rsame_same _ _ _ Y _ (R5'.ext (g6'.trans g7)) (R6'.ext g7)).mono ?_
      rintro e8 w8 ⟨rfl, g8⟩
      have E8 := ((E0.trans g16).trans g7).trans g8
      go_wp2_with fail
      refine (awake_any _).mono ?_
      rintro e9 w9 ⟨rfl, g9⟩
      go_wp2_with fail
      go_ret
      exact ⟨rfl, E8.trans g9⟩
end Go.Proofs.Ytfnlekehcaehkaa
