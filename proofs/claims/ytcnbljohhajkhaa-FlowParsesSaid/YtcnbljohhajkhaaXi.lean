/- Layer 18, the reference: Parse; FlowParses. -/
import Derived.Test.YtcnbljohhajkhaaXh
import Derived.Test.YtcnbljohhajkhaaXf
namespace Go.Proofs.Ytcnbljohhajkhaa
open Go.RowKit
set_option linter.unusedVariables false
set_option linter.unusedSimpArgs false
attribute [local go_sem ↓] Go.wp_at_zero Go.wp_at_succ

theorem tree_all (S : Sy) : TreeOK S := by
  have main : ∀ n S, Sy.len S ≤ n → TreeOK S := by
    intro n
    induction n with
    | zero => intro S h; exact tree_any S (fun S' h' => by omega)
    | succ n ih => intro S h; exact tree_any S (fun S' h' => ih S' (by omega))
  exact main _ S (Nat.le_refl _)
/-- What the tree of code is: the code is nested, its partners lie beside it. -/
theorem parse_plain (C : List (Int × Int)) (h0 : (ptR C).2.2 = 0) : ∃ S : Sy, S.len = C.length ∧ C.length ≤ 1024 ∧ (ptR C).1.length = C.length ∧ AtS C (ptR C).1 0 S ∧ (parR C).1 = S.tr 0 .nil ∧ (parR C).2.1 = 0 ∧ (parR C).2.2 = 0 := by
  by_cases hC : C.length ≤ 1024
  · rcases whole_law C with ⟨S, rfl, h1, h2, h3⟩ | ⟨e', h1, -, h3⟩
    · have hw := whole_of S h1 h2
      have hp : ptR S.cod = (S.prt true 0 (-1), 0, 0) := by unfold ptR; rw [if_pos hC, hw]
      have hq : parR S.cod = (S.tr 0 .nil, 0, 0) := by unfold parR; rw [if_pos hC, hw]
      rw [hp, hq]
      refine ⟨S, (Sy.len_cod S).symm, hC, by simp [Sy.len_prt, Sy.len_cod], at_sy S false S.cod _ [] [] [] [] 0 (-1) (by simp) rfl h1 (by simp) rfl, rfl, rfl, rfl⟩
    · exfalso
      unfold ptR at h0
      rw [if_pos hC, h1] at h0
      simp at h0
  · exfalso
    unfold ptR at h0
    rw [if_neg hC] at h0
    simp at h0
theorem par_err (C : List (Int × Int)) (h0 : (ptR C).2.2 ≠ 0) : (parR C).1 = .nil := by
  have := (pt_pair C).2.2.1
  exact parR_err C (by rw [← this]; exact h0)
set_option maxHeartbeats 2000000 in
set_option maxRecDepth 100000 in
theorem rparse_any (v : Value) (C : List (Int × Int)) (w : World) (h : Code18 w v C) :
    Calls Try.prog 12 #[v] w (ParP w C) := by
  have hp := hidden (partners_any v C w h)
  have hpl := parse_plain C
  have hpe := par_err C
  obtain ⟨-, -, e3, e4⟩ := pt_pair C
  obtain ⟨n, hn⟩ : ∃ n, C.length = n := ⟨_, rfl⟩
  have HC := hidden h
  obtain ⟨a, cap, rfl, hcap, hcap2, -⟩ := Rd.shape h
  obtain ⟨e, he⟩ : ∃ e, (ptR C).2.2 = e := ⟨_, rfl⟩
  obtain ⟨p, hpp⟩ : ∃ e, (ptR C).2.1 = e := ⟨_, rfl⟩
  obtain ⟨P, hP⟩ : ∃ P, (ptR C).1 = P := ⟨_, rfl⟩
  obtain ⟨v0, hv0⟩ : ∃ v0, Value.slice a C.length cap = v0 := ⟨_, rfl⟩
  rw [hv0] at HC hp ⊢
  rw [he] at hpl hpe e3
  rw [hP] at hpl
  rw [hpp] at e4
  replace e3 := hidden e3
  replace e4 := hidden e4
  replace hP := hidden hP
  replace he := hidden he
  replace hpp := hidden hpp
  by_cases h0 : e = 0
  · subst h0
    obtain ⟨S, s1, s2, s3, s4, s5, s6, s7⟩ := hpl rfl
    replace s1 := hidden s1
    replace s3 := hidden s3
    replace s5 := hidden s5
    replace s6 := hidden s6
    replace s7 := hidden s7
    replace hn := hidden hn
    clear hpl hpe h
    rw [hn.out] at s2
    have hv1 := hv0
    rw [hn.out] at hv1
    subst hv1
    replace hv0 := hidden hv0
    go_enter Try.func12, Try.ntmps12
    go_wp2_with fail
    refine hp.out.mono ?_
    rintro x w1 ⟨vo, rfl, hO, hX⟩
    rw [he.out, hpp.out]
    rw [hP.out] at hO
    have hT := tree_all S w1 _ vo C P 0 (HC.out.ext hX) (OwnI.rd hO) s3.out (by rw [hn.out]; exact s2) s4 (Nat.zero_le _)
    rw [Nat.zero_add, s1.out, hn.out, s5.out.symm] at hT
    replace hT := hidden hT
    replace hX := hidden hX
    clear hp hO
    go_wp2_with fail
    refine hT.out.mono ?_
    rintro x w2 ⟨vt, rfl, hS, hX2⟩
    replace hS := hidden hS
    have hX3 := hidden (hX.out.trans hX2)
    have hsz := hX.out.size
    clear hT hX2
    go_wp2_with fail
    go_ret3
    unfold ParP
    rw [s6.out, s7.out]
    exact ⟨_, rfl, hS.out.chg (Chg.refl [] _) (by simp) (fun _ _ h => Nat.le_trans hsz h), hX3.out⟩
  · have hnil := hidden (hpe h0)
    have h0' : (e != 0) = true := by simp; exact h0
    clear hpl hpe h hn hv0
    go_enter Try.func12, Try.ntmps12
    go_wp2_with fail
    refine hp.out.mono ?_
    rintro x w1 ⟨vo, rfl, hO, hX⟩
    rw [he.out, hpp.out]
    replace hX := hidden hX
    clear hp hO
    go_wp2_with fail
    go_ret3
    unfold ParP
    rw [hnil.out, ← e3.out, ← e4.out]
    exact ⟨_, rfl, SubAt.nil _ _, hX.out⟩
set_option maxHeartbeats 2000000 in
set_option maxRecDepth 100000 in
theorem FlowParses_law (v : Value) (C : List (Int × Int)) (hok : ∀ x ∈ C, (-9223372036854775808 ≤ x.1 ∧ x.1 ≤ 9223372036854775807) ∧ (0 ≤ x.2 ∧ x.2 ≤ 4294967295)) (w : World) (h : Code18 w v C) :
    Calls Try.prog 3 #[v] w fun x w' => x = .returned (.bool true) ∧ Ext w w' := by
  have hL := list_all
  have hf := few_any v C w h
  have haw := hidden (awake_any hL)
  have HC := hidden h
  have hp := hidden (parse_any hL v C w h)
  obtain ⟨pr, hpr⟩ : ∃ pr, parR C = pr := ⟨_, rfl⟩
  replace hpr := hidden hpr
  clear h hok
  go_enter Try.func3, Try.ntmps3
  by_cases hfew : C.length ≤ 100 ∨ 1024 < C.length ∧ C.length < 1033
  · rw [show decide (C.length ≤ 100 ∨ 1024 < C.length ∧ C.length < 1033) = true from decide_eq_true hfew] at hf
    replace hf := hidden hf
    clear hfew
    go_wp2_with fail
    refine hf.out.mono ?_
    rintro e w1 ⟨rfl, hw1⟩
    rw [hw1]
    clear hw1
    go_wp2_with fail
    refine hp.out.mono ?_
    rintro x w2 ⟨va, rfl, hS, hX⟩
    have hq := hidden (rparse_any v C w2 (HC.out.ext hX))
    have HS2 := hidden hS
    have hX2 := hidden hX
    rw [hpr.out] at HS2 ⊢
    obtain ⟨t, p, e⟩ := pr
    simp only at HS2 ⊢
    clear hp hf hS hX
    go_wp2_with fail
    refine hq.out.mono ?_
    rintro x w3 ⟨vb, rfl, hS, hX⟩
    rw [hpr.out] at hS ⊢
    simp only at hS ⊢
    have hsm := hidden (same_all t w3 _ _ va vb (HS2.out.chg (Chg.of_ext [] hX) (by simp) (fun _ _ h => h)) hS)
    have hX3 := hidden (hX2.out.trans hX)
    clear hq hS hX HS2 hX2
    go_wp2_with fail
    refine hsm.out.mono ?_
    rintro x w4 ⟨rfl, hX⟩
    have hX4 := hidden (hX3.out.trans hX)
    clear hsm hX hX3
    go_wp2_with fail
    refine (haw.out w4).mono ?_
    rintro x w9 ⟨rfl, hX⟩
    have hX9 := hidden (hX4.out.trans hX)
    go_wp2_with fail
    go_ret
    exact ⟨rfl, hX9.out⟩
  · rw [show decide (C.length ≤ 100 ∨ 1024 < C.length ∧ C.length < 1033) = false from decide_eq_false hfew] at hf
    replace hf := hidden hf
    clear hfew hp
    go_wp2_with fail
    refine hf.out.mono ?_
    rintro e w1 ⟨rfl, hw1⟩
    rw [hw1]
    clear hw1
    go_wp2_with fail
    refine (haw.out w).mono ?_
    rintro x w9 ⟨rfl, hX⟩
    replace hX := hidden hX
    go_wp2_with fail
    go_ret
    exact ⟨rfl, hX.out⟩
end Go.Proofs.Ytcnbljohhajkhaa
