/- Layer 18: FlowReturns. -/
import Derived.Test.YtcnbljohhajkhaaWp
namespace Go.Proofs.Ytcnbljohhajkhaa
open Go.RowKit
set_option linter.unusedVariables false
set_option linter.unusedSimpArgs false
attribute [local go_sem ↓] Go.wp_at_zero Go.wp_at_succ

theorem parR_err (C : List (Int × Int)) (h : (parR C).2.2 ≠ 0) : (parR C).1 = .nil := by
  unfold parR at h ⊢
  split
  next hl =>
    rw [if_pos hl] at h
    split
    · rfl
    next hw => rw [hw] at h; simp at h
  · rfl
set_option maxHeartbeats 2000000 in
set_option maxRecDepth 100000 in
theorem returns_any (hL : ∀ C f, ListOK C f) (v : Value) (C : List (Int × Int)) (w : World) (h : Code18 w v C) :
    Calls Try.prog 5 #[v] w fun x w' => x = .returned (.bool true) ∧ Ext w w' := by
  have hf := few_any v C w h
  have haw := hidden (awake_any hL)
  have HC := hidden h
  have hp := hidden (parse_any hL v C w h)
  clear h
  go_enter Try.func5, Try.ntmps5
  by_cases hfew : C.length ≤ 100 ∨ 1024 < C.length ∧ C.length < 1033
  · rw [show decide (C.length ≤ 100 ∨ 1024 < C.length ∧ C.length < 1033) = true from decide_eq_true hfew] at hf
    have hlen : C.length ≤ 2000 := by omega
    replace hf := hidden hf
    clear hfew
    go_wp2_with fail
    refine hf.out.mono ?_
    rintro e w1 ⟨rfl, hw1⟩
    rw [hw1]
    clear hw1
    go_wp2_with fail
    refine hp.out.mono ?_
    rintro x w2 ⟨vt, rfl, hS, hX⟩
    have HC2 := hidden (HC.out.ext hX)
    have hX2 := hidden hX
    have hlaw := returns_law C
    have herr := parR_err C
    generalize parR C = pr at hS hlaw herr ⊢
    obtain ⟨t, p, e⟩ := pr
    simp only at hS hlaw herr ⊢
    clear hf hp hX
    by_cases he : e = 0
    · subst he
      obtain ⟨g1, g2, g3, g4, g5, g6, g7⟩ := hlaw rfl
      have HS2 := hidden hS
      have hfl := hidden (flatten_any vt v C t w2 _ HC2.out hS g1 g2 g3)
      replace hlaw := hidden hlaw
      replace g2 := hidden g2
      clear hS hlaw herr
      go_wp2_with fail
      refine hfl.out.mono ?_
      rintro x w3 ⟨vb, rfl, hO, hX⟩
      have HC3 := hidden (HC2.out.ext hX)
      have HS3 := hidden (HS2.out.chg (Chg.of_ext [] hX) (by simp) (fun _ _ h => h))
      have hX3 := hidden (hX2.out.trans hX)
      rw [g5] at hO g4 g6
      have HB3 := hidden (OwnC.rd hO)
      have hp2 := hidden (parse_any hL vb (plF C) w3 HB3.out)
      clear hfl hX hO HC2 HS2 hX2
      go_wp2_with fail
      refine hp2.out.mono ?_
      rintro x w4 ⟨vt2, rfl, hS, hX⟩
      have HC4 := hidden (HC3.out.ext hX)
      have HS4 := hidden (HS3.out.chg (Chg.of_ext [] hX) (by simp) (fun _ _ h => h))
      have HB4 := hidden (HB3.out.ext hX)
      have hX4 := hidden (hX3.out.trans hX)
      generalize parR (plF C) = pr at hS g4 g6 ⊢
      obtain ⟨t2, p2, e2⟩ := pr
      simp only at hS g4 g6 ⊢
      subst g4
      have HT4 := hidden hS
      have hpl := hidden (plain_any v C w4 HC4.out hlen)
      clear hp2 hX hS HC3 HS3 HB3 hX3
      go_wp2_with fail
      refine hpl.out.mono ?_
      rintro x w5 ⟨vp, rfl, hO, hX⟩
      have hsc := hidden (samecode_any vb vp (plF C) w5 (HB4.out.ext hX) (OwnC.rd hO))
      have HS5 := hidden (HS4.out.chg (Chg.of_ext [] hX) (by simp) (fun _ _ h => h))
      have HT5 := hidden (HT4.out.chg (Chg.of_ext [] hX) (by simp) (fun _ _ h => h))
      have hX5 := hidden (hX4.out.trans hX)
      clear hpl hX hO HC4 HS4 HB4 HT4 hX4
      go_wp2_with fail
      refine hsc.out.mono ?_
      rintro x w6 ⟨rfl, hX⟩
      have hd1 := hidden (depth_all t2 w6 _ vt2 (HT5.out.chg (Chg.of_ext [] hX) (by simp) (fun _ _ h => h)) (by omega))
      have HS6 := hidden (HS5.out.chg (Chg.of_ext [] hX) (by simp) (fun _ _ h => h))
      have hX6 := hidden (hX5.out.trans hX)
      clear hsc hX HS5 HT5 hX5
      go_wp2_with fail
      refine hd1.out.mono ?_
      rintro x w7 ⟨rfl, hX⟩
      have hd2 := hidden (depth_all t w7 _ vt (HS6.out.chg (Chg.of_ext [] hX) (by simp) (fun _ _ h => h)) (by omega))
      have hX7 := hidden (hX6.out.trans hX)
      clear hd1 hX HS6 hX6
      go_wp2_with fail
      refine hd2.out.mono ?_
      rintro x w8 ⟨rfl, hX⟩
      have hX8 := hidden (hX7.out.trans hX)
      clear hd2 hX hX7
      go_wp2_with fail
      refine (haw.out w8).mono ?_
      rintro x w9 ⟨rfl, hX⟩
      have hX9 := hidden (hX8.out.trans hX)
      go_wp2_with fail
      go_ret
      exact ⟨rfl, hX9.out⟩
    · have he' : (e != 0) = true := by simp; exact he
      have ht := herr he
      subst ht
      obtain ⟨ct, hrt, -, -⟩ := hS
      obtain ⟨a, c, rfl, -⟩ := Rd.shape hrt
      rw [show T.nil.len = 0 from rfl]
      clear hrt hlaw herr
      go_wp2_with fail
      refine (haw.out w2).mono ?_
      rintro x w9 ⟨rfl, hX⟩
      have hX9 := hidden (hX2.out.trans hX)
      go_wp2_with fail
      go_ret
      exact ⟨rfl, hX9.out⟩
  · rw [show decide (C.length ≤ 100 ∨ 1024 < C.length ∧ C.length < 1033) = false from decide_eq_false hfew] at hf
    replace hf := hidden hf
    clear hfew hp
    go_wp2_with fail
    refine hf.out.mono ?_
    rintro e w1 ⟨rfl, hw1⟩
    rw [hw1]
    clear hw1
    go_wp2_with fail
    refine (haw.out w).mono ?_
    rintro x w9 ⟨rfl, hX⟩
    replace hX := hidden hX
    go_wp2_with fail
    go_ret
    exact ⟨rfl, hX.out⟩
end Go.Proofs.Ytcnbljohhajkhaa
