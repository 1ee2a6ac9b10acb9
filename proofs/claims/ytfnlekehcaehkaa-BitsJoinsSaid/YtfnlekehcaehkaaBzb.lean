/- The law BitsGammas: the walk. -/
import Derived.Test.YtfnlekehcaehkaaBza
import Derived.Test.YtfnlekehcaehkaaBl
namespace Go.Proofs.Ytfnlekehcaehkaa
open Go.RowKit
set_option linter.unusedVariables false
attribute [local go_sem ↓] Go.wp_at_zero Go.wp_at_succ

set_option maxHeartbeats 1000000 in
theorem BitsGammas_law (v : Value) (l : List Int) (c n a : Int) (hb : Bytes l) (hc0 : -9223372036854775808 ≤ c) (hc1 : c ≤ 9223372036854775807) (hn0 : -9223372036854775808 ≤ n) (hn1 : n ≤ 9223372036854775807) (ha0 : -9223372036854775808 ≤ a) (ha1 : a ≤ 9223372036854775807) (w : World) (h : Rd8 w v l) :
    Calls Try.prog 3 #[.agg #[v, .int .i64 c], .int .i64 n, .int .i64 a] w fun x w' => x = .returned (.bool true) ∧ Ext w w' := by
  obtain ⟨ad, cap, rfl, q1, q2, q3⟩ := Rd.shape h
  have W0B := Blk.new w [.slice ad l.length cap, .int .i64 c] 24
  have W0R : Rd8 (w.alloc (.cells #[.slice ad l.length cap, .int .i64 c] 24)) (.slice ad l.length cap) l := Rd.alloc h _
  have W0E : Ext w (w.alloc (.cells #[.slice ad l.length cap, .int .i64 c] 24)) := (Ext.refl w).alloc _
  have p0 := W0B.cell 0 _ rfl
  have p1 := W0B.cell 1 _ rfl
  by_cases hl : (l.length : Int) ≤ 100
  · have hd : decide ((l.length : Int) ≤ 100) = true := by simp [hl]
    have HD := hidden hd
    clear hd
    obtain ⟨e, X, k, hG⟩ : ∃ e X k, gamF l c n = (e, X, k) := ⟨_, _, _, rfl⟩
    obtain ⟨f, m, p, hR⟩ : ∃ f m p, rgF l c a = (f, m, p) := ⟨_, _, _, rfl⟩
    have HG := hidden hG
    have HR := hidden hR
    clear hG hR
    go_enter Try.func3, Try.ntmps3
    go_wp2_with fail
    refine (few_any _ l c (by omega) _ W0R).mono ?_
    rw [HD.out]
    rintro e0 w1 ⟨rfl, g1⟩
    have b0 := (W0B.ext g1).cell 0 _ rfl
    have b1 := (W0B.ext g1).cell 1 _ rfl
    clear p0 p1
    go_wp2_with fail
    refine (gamma_any _ l c n hb (by omega) hc0 hc1 _ (W0R.ext g1)).mono ?_
    rw [HG.out]
    rintro e0 w2 ⟨a2, k2, rfl, R2, F2, g2⟩
    have R2 : Rd8 w2 (.slice a2 X.length k2) X := R2
    have g2' := g2.alloc (.cells #[.slice a2 X.length k2, .int .i64 (k : Int)] 24)
    have B2 := Blk.new w2 [.slice a2 X.length k2, .int .i64 (k : Int)] 24
    have R2' := Rd.alloc R2 (.cells #[.slice a2 X.length k2, .int .i64 (k : Int)] 24)
    have c0 := (W0B.ext (g1.trans g2')).cell 0 _ rfl
    have c1 := (W0B.ext (g1.trans g2')).cell 1 _ rfl
    clear b0 b1
    go_wp2_with fail
    refine (rgam_any _ l c n hb (by omega) hc0 hc1 hn0 hn1 _ (W0R.ext (g1.trans g2'))).mono ?_
    rw [HG.out]
    rintro e0 w3 ⟨a3, k3, rfl, R3, F3, g3⟩
    have R3 : Rd8 w3 (.slice a3 X.length k3) X := R3
    have g3' := g3.alloc (.cells #[.slice a3 X.length k3, .int .i64 (k : Int)] 24)
    have B3 := Blk.new w3 [.slice a3 X.length k3, .int .i64 (k : Int)] 24
    have R3' := Rd.alloc R3 (.cells #[.slice a3 X.length k3, .int .i64 (k : Int)] 24)
    have g13 := (g1.trans g2').trans g3'
    have d0 := (W0B.ext g13).cell 0 _ rfl
    have d1 := (W0B.ext g13).cell 1 _ rfl
    clear c0 c1
    go_wp2_with fail
    refine (rgamma_any _ l c a hb (by omega) hc0 hc1 ha1 _ (W0R.ext g13)).mono ?_
    rw [HR.out]
    rintro e0 w4 ⟨rfl, g4⟩
    have g14 := g13.trans g4
    have f0 := (W0B.ext g14).cell 0 _ rfl
    have f1 := (W0B.ext g14).cell 1 _ rfl
    clear d0 d1
    go_wp2_with fail
    refine (rrgam_any _ l c a hb (by omega) hc0 hc1 ha1 _ (W0R.ext g14)).mono ?_
    rw [HR.out]
    rintro e0 w5 ⟨rfl, g5⟩
    have h2 := (B2.ext (g3'.trans (g4.trans g5)))
    have h3 := (B3.ext (g4.trans g5))
    have x0 := h2.cell 0 _ rfl
    have x1 := h2.cell 1 _ rfl
    have y0 := h3.cell 0 _ rfl
    have y1 := h3.cell 1 _ rfl
    clear f0 f1
    go_wp2_with fail
    refine (rsame_same _ _ _ X _ (R2'.ext (g3'.trans (g4.trans g5))) (R3'.ext (g4.trans g5))).mono ?_
    rintro e0 w6 ⟨rfl, g6⟩
    have hEE : Ext w w6 := ((W0E.trans g14).trans g5).trans g6
    go_wp2_with fail
    refine (awake_any _).mono ?_
    rintro e0 w7 ⟨rfl, g7⟩
    go_wp2_with fail
    go_ret
    exact ⟨rfl, hEE.trans g7⟩
  · have hd : decide ((l.length : Int) ≤ 100) = false := by simp [hl]
    have HD := hidden hd
    clear hd
    go_enter Try.func3, Try.ntmps3
    go_wp2_with fail
    refine (few_any _ l c (by omega) _ W0R).mono ?_
    rw [HD.out]
    rintro e0 w1 ⟨rfl, g1⟩
    go_wp2_with fail
    refine (awake_any _).mono ?_
    rintro e0 w7 ⟨rfl, g7⟩
    go_wp2_with fail
    go_ret
    exact ⟨rfl, (W0E.trans g1).trans g7⟩
end Go.Proofs.Ytfnlekehcaehkaa
