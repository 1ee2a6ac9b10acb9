/- Layer 36: the statement ParseBeats. -/
import Derived.Test.YtjfdmhdmadnkoaaNo
import Derived.Test.YtjfdmhdmadnkoaaNp
namespace Go.Proofs.Ytjfdmhdmadnkoaa
open Go.RowKit
set_option linter.unusedVariables false
attribute [local go_sem ↓] Go.wp_at_zero Go.wp_at_succ

set_option maxRecDepth 100000 in
set_option maxHeartbeats 8000000 in
theorem ParseBeats_law (v : Value) (D : List Int) (vn : Value) (N : List Int) (hb : Bytes D) (hbN : Bytes N) (w : World) (h : Rd8 w v D) (hN : Rd8 w vn N) :
    Calls Try.prog 8 #[v, vn] w fun x w' => x = .returned (.bool true) ∧ Ext w w' := by
  have haw := hidden pawake_any
  obtain ⟨a, cap, rfl, q1, q2, q3⟩ := Rd.shape h
  obtain ⟨b, dap, rfl, p1, p2, p3⟩ := Rd.shape hN
  by_cases k : 120 < D.length
  · obtain ⟨n, hn⟩ : ∃ n, D.length = n := ⟨_, rfl⟩
    rw [hn] at k q1 ⊢
    clear h hb hn hN hbN
    go_enter Try.func8, Try.ntmps8
    go_wp2_with fail
    refine (haw.out _).mono ?_
    rintro e1 w1 ⟨rfl, g1⟩
    go_wp2_with fail
    go_ret
    exact ⟨rfl, g1⟩
  · have c1 := popt_any (.slice a D.length cap) D hb (by omega) w h
    rw [show optE D = (0, opF D, (poF D).getD 0 0) by unfold optE; rw [if_neg (by omega)]] at c1
    obtain ⟨-, hok, hln, -, hex, hco⟩ := fac_all hb (by omega) (opF_fac hb)
    have hsum := opF_sum hb
    rw [hsum] at hco
    have c2 := fun u W hW => lexpand_any u (opF D) hok W hW
    rw [hex] at c2
    have c3 := fun u W hW => pcost_any u (opF D) hok W hW
    rw [hco] at c3
    have c4 := fun W hW hQ => other_any (.slice a D.length cap) (.slice b N.length dap) D N hb hbN (by omega) W hW hQ
    have hother : ∀ l, Fac D 0 l → OkTs l ∧ cosE l = (0, sumP l) ∧ (poF D).getD 0 0 ≤ sumP l := fun l hl => by
      obtain ⟨-, h1, -, -, -, h2⟩ := fac_all hb (by omega) hl
      exact ⟨h1, h2, po_least hl⟩
    have c5 := fun W hW => lgreedy_any (.slice a D.length cap) D hb (by omega) W hW
    obtain ⟨hg1, hg2⟩ := grF_fac hb (by omega : D.length ≤ 65536)
    have hgr := hother _ hg2
    obtain ⟨⟨e5, G⟩, hG⟩ : ∃ r, grF D = r := ⟨_, rfl⟩
    rw [hG] at c5 hg1 hgr
    simp only at hg1 hgr
    subst hg1
    obtain ⟨hgo, hgc, hgl⟩ := hgr
    have c6 := fun u W hW => pcost_any u G hgo W hW
    rw [hgc] at c6
    have hgb := sumP_bd G
    obtain ⟨sG, hsG⟩ : ∃ s, sumP G = s := ⟨_, rfl⟩
    rw [hsG] at c6 hgl
    obtain ⟨z, hz⟩ : ∃ z, (poF D).getD 0 0 = z := ⟨_, rfl⟩
    rw [hz] at c1 c3 hother hgl
    obtain ⟨l, hl⟩ : ∃ l, opF D = l := ⟨_, rfl⟩
    rw [hl] at c1 c2 c3
    obtain ⟨n, hn⟩ : ∃ n, D.length = n := ⟨_, rfl⟩
    obtain ⟨r, hr⟩ : ∃ n, N.length = n := ⟨_, rfl⟩
    have H : Hid (Rd8 w (.slice a n cap) D) := hidden (by rw [← hn]; exact h)
    have HN : Hid (Rd8 w (.slice b r dap) N) := hidden (by rw [← hr]; exact hN)
    rw [hn] at k q1 c1 c4 c5 ⊢
    rw [hr] at p1 c4 ⊢
    have hbD : Hid (Bytes D) := hidden hb
    replace c1 := hidden c1
    replace c2 := hidden c2
    replace c3 := hidden c3
    replace c4 := hidden c4
    replace c5 := hidden c5
    replace c6 := hidden c6
    replace hother := hidden hother
    clear h hb hN hbN hn hr hl hz hsG hsum hco hex hok hln hgo hgc hG hgb hg2
    go_enter Try.func8, Try.ntmps8
    go_wp2_with fail
    refine c1.out.mono ?_
    rintro x1 w1 he
    obtain ⟨v1, rfl, O1, g1⟩ := he
    obtain ⟨a1, d1, rfl, -, -, -⟩ := Rd.shape O1.toks
    have T1 : Hid (Toks w1 (.slice a1 l.length d1) l) := hidden O1.toks
    have X1 := hidden g1
    clear O1 g1
    go_wp2_with fail
    refine (c2.out _ _ T1.out).mono ?_
    rintro x2 w2 he
    obtain ⟨v2, rfl, O2, g2⟩ := he
    obtain ⟨a2, d2, rfl, -, -, -⟩ := Rd.shape O2.rd
    have T2 : Hid (Toks w2 (.slice a1 l.length d1) l) := hidden (Rd.ext T1.out g2)
    have R2 : Hid (Rd8 w2 (.slice a2 D.length d2) D) := hidden O2.rd
    have X2 := hidden (X1.out.trans g2)
    clear O2 g2 T1 X1
    go_wp2_with fail
    refine (c3.out _ _ T2.out).mono ?_
    rintro x3 w3 ⟨rfl, g3⟩
    have R3 : Hid (Rd8 w3 (.slice a2 D.length d2) D) := hidden (Rd.ext R2.out g3)
    have X3 := hidden (X2.out.trans g3)
    clear g3 T2 R2 X2
    go_wp2_with fail
    refine (c4.out _ (Rd.ext H.out X3.out) (Rd.ext HN.out X3.out)).mono ?_
    rintro x4 w4 he
    obtain ⟨v4, lo, rfl, O4, f4, g4⟩ := he
    obtain ⟨ho1, ho2, ho3⟩ := hother.out lo f4
    have c7 := fun u W hW => pcost_any u lo ho1 W hW
    rw [ho2] at c7
    obtain ⟨sO, hsO⟩ : ∃ s, sumP lo = s := ⟨_, rfl⟩
    rw [hsO] at c7 ho3
    replace c7 := hidden c7
    obtain ⟨a4, d4, rfl, -, -, -⟩ := Rd.shape O4.toks
    have T4 : Hid (Toks w4 (.slice a4 lo.length d4) lo) := hidden O4.toks
    have R4 : Hid (Rd8 w4 (.slice a2 D.length d2) D) := hidden (Rd.ext R3.out g4)
    have X4 := hidden (X3.out.trans g4)
    clear O4 g4 f4 R3 X3 ho1 ho2 hsO
    go_wp2_with fail
    refine (c7.out _ _ T4.out).mono ?_
    rintro x5 w5 ⟨rfl, g5⟩
    have R5 : Hid (Rd8 w5 (.slice a2 D.length d2) D) := hidden (Rd.ext R4.out g5)
    have X5 := hidden (X4.out.trans g5)
    clear g5 R4 X4 T4
    go_wp2_with fail
    refine (c5.out _ (Rd.ext H.out X5.out)).mono ?_
    rintro x6 w6 he
    obtain ⟨v6, rfl, O6, g6⟩ := he
    obtain ⟨a6, d6, rfl, -, -, -⟩ := Rd.shape O6.toks
    have T6 : Hid (Toks w6 (.slice a6 G.length d6) G) := hidden O6.toks
    have R6 : Hid (Rd8 w6 (.slice a2 D.length d2) D) := hidden (Rd.ext R5.out g6)
    have X6 := hidden (X5.out.trans g6)
    clear O6 g6 R5 X5
    go_wp2_with fail
    refine (c6.out _ _ T6.out).mono ?_
    rintro x7 w7 ⟨rfl, g7⟩
    have R7 : Hid (Rd8 w7 (.slice a2 D.length d2) D) := hidden (Rd.ext R6.out g7)
    have X7 := hidden (X6.out.trans g7)
    clear g7 R6 X6 T6
    go_wp2_with fail
    refine (haw.out _).mono ?_
    rintro x8 w8 ⟨rfl, g8⟩
    have R8 : Hid (Rd8 w8 (.slice a2 D.length d2) D) := hidden (Rd.ext R7.out g8)
    have X8 := hidden (X7.out.trans g8)
    clear g8 R7 X7
    go_wp2_with fail
    refine (bequal_any _ _ D D hbD.out hbD.out _ R8.out (Rd.ext H.out X8.out)).mono ?_
    rw [decide_eq_true rfl]
    rintro x9 w9 ⟨rfl, g9⟩
    have X9 := hidden (X8.out.trans g9)
    clear g9
    go_wp2_with fail
    go_ret
    exact ⟨rfl, X9.out⟩
end Go.Proofs.Ytjfdmhdmadnkoaa
