/- InstructionDecodes: the walk. -/
import Derived.Test.YtchkbidekmaaiaaKi
import Derived.Test.YtchkbidekmaaiaaJw
namespace Go.Proofs.Ytchkbidekmaaiaa
open Go.RowKit
set_option linter.unusedVariables false
attribute [local go_sem ↓] Go.wp_at_zero Go.wp_at_succ

set_option maxHeartbeats 2000000 in
theorem InstructionDecodes_law (v : Value) (S : List Int) (hb : Bytes S) (w : World) (h : Rd8 w v S) :
    Calls Try.prog 5 #[v] w fun x w' => x = .returned (.bool true) ∧ Ext w w' := by
  have haw := awake_any
  replace haw := hidden haw
  obtain ⟨a, ca, rfl, a1, a2, a3⟩ := Rd.shape h
  by_cases hbig : 3000 < S.length
  · obtain ⟨n, hn⟩ : ∃ n, S.length = n := ⟨_, rfl⟩
    rw [hn] at hbig a1 ⊢
    clear hn h
    go_enter Try.func5, Try.ntmps5
    go_wp2_with fail
    refine (haw.out _).mono ?_
    rintro e w1 ⟨rfl, g1⟩
    go_wp2_with fail
    go_ret
    exact ⟨rfl, g1⟩
  · have e1 := fun W (g : Ext w W) => idecode_any _ S hb (by omega) W (Rd.ext h g)
    have e2 := fun W (g : Ext w W) => rdecode_any _ S hb (by omega) W (Rd.ext h g)
    rw [dec_same S hb] at e2
    obtain ⟨D, hD⟩ : ∃ D, decF S = D := ⟨_, rfl⟩
    rw [hD] at e1 e2
    obtain ⟨n, hn⟩ : ∃ n, S.length = n := ⟨_, rfl⟩
    rw [hn] at hbig a1 e1 e2 ⊢
    obtain ⟨de, dA, dL, dC, dr⟩ := D
    replace e1 := hidden e1
    replace e2 := hidden e2
    clear hn hD hb
    go_enter Try.func5, Try.ntmps5
    go_wp2_with fail
    refine (e1.out _ (Ext.refl w)).mono ?_
    rintro e w1 ⟨vA, vC, vr, rfl, oA, oC, oR, g1⟩
    obtain ⟨aA, cA1, rfl, -, -, -⟩ := own_shape oA
    obtain ⟨aC, cC1, rfl, -, -, -⟩ := own_shape oC
    have rA : Arr w1 _ dA := Rd.of_own oA
    have rC : Cod w1 _ dC := Rd.of_own oC
    have rR : Rd8 w1 _ dr := Rd.of_own oR
    have BP := Blk.new w1 [.slice aA dA.length cA1, .int .i64 dL, .slice aC dC.length cC1] 33
    have X1 := g1.alloc (.cells #[.slice aA dA.length cA1, .int .i64 dL, .slice aC dC.length cC1] 33)
    have Y1 := (Ext.refl w1).alloc (.cells #[.slice aA dA.length cA1, .int .i64 dL, .slice aC dC.length cC1] 33)
    clear oA oC oR g1
    go_wp2_with fail
    refine (e2.out _ X1).mono ?_
    rintro e w2 ⟨uA, uC, ur, rfl, pA, pC, pR, g2⟩
    obtain ⟨bA, dA1, rfl, -, -, -⟩ := own_shape pA
    obtain ⟨bC, dC1, rfl, -, -, -⟩ := own_shape pC
    have Y2 := Y1.trans g2
    have BP2 := BP.ext g2
    have BP3 := BP2.alloc (.cells #[.slice bA dA.length dA1, .int .i64 dL, .slice bC dC.length dC1] 33)
    have BQ3 := Blk.new w2 [.slice bA dA.length dA1, .int .i64 dL, .slice bC dC.length dC1] 33
    have Z2 := (Ext.refl w2).alloc (.cells #[.slice bA dA.length dA1, .int .i64 dL, .slice bC dC.length dC1] 33)
    have Y3 := Y2.trans Z2
    have X3 := (X1.trans g2).trans Z2
    have hsm := sameprog_any _ _ _ _ dA dA dL dL dC dC _ (Rd.ext rA Y3) (Rd.ext rC Y3) (Rd.ext (Rd.of_own pA) Z2) (Rd.ext (Rd.of_own pC) Z2)
    rw [show sameP dA dA dL dL dC dC = true by simp [sameP]] at hsm
    have hsb := fun W (g : Ext (w2.alloc (.cells #[.slice bA dA.length dA1, .int .i64 dL, .slice bC dC.length dC1] 33)) W) => same_any vr ur dr dr W (Rd.ext (Rd.ext rR Y3) g) (Rd.ext (Rd.ext (Rd.of_own pR) Z2) g)
    simp only [decide_true] at hsb
    have p0 := BP3.cell 0 _ rfl
    have p1 := BP3.cell 1 _ rfl
    have p2 := BP3.cell 2 _ rfl
    have q0 := BQ3.cell 0 _ rfl
    have q1 := BQ3.cell 1 _ rfl
    have q2 := BQ3.cell 2 _ rfl
    replace hsm := hidden hsm
    replace hsb := hidden hsb
    clear rA rC rR BP BP2 BP3 BQ3 Y1 Y2 Y3 Z2 pA pC pR e1 e2
    go_wp2_with fail
    refine hsm.out.mono ?_
    rintro e w3 ⟨rfl, g3⟩
    go_wp2_with fail
    refine (hsb.out _ g3).mono ?_
    rintro e w4 ⟨rfl, g4⟩
    go_wp2_with fail
    refine (haw.out _).mono ?_
    rintro e w5 ⟨rfl, g5⟩
    go_wp2_with fail
    go_ret
    exact ⟨rfl, ((X3.trans g3).trans g4).trans g5⟩
end Go.Proofs.Ytchkbidekmaaiaa
