/- InstructionEncodes: the walk. -/
import Derived.Test.YtchkbidekmaaiaaKd
import Derived.Test.YtchkbidekmaaiaaJw
namespace Go.Proofs.Ytchkbidekmaaiaa
open Go.RowKit
set_option linter.unusedVariables false
attribute [local go_sem ↓] Go.wp_at_zero Go.wp_at_succ

set_option maxHeartbeats 2000000 in
theorem InstructionEncodes_law (va : Value) (A : List (Bool × Int)) (L : Int) (vc : Value) (C : List (Int × Int)) (hA : OkA A) (hL0 : -9223372036854775808 ≤ L) (hL1 : L ≤ 9223372036854775807) (hC : OkI C) (w : World) (ra : Rd w 2 va A.length (A.flatMap cA)) (rc : Rd w 2 vc C.length (C.flatMap cI)) :
    Calls Try.prog 4 #[.agg #[va, .int .i64 L, vc]] w fun x w' => x = .returned (.bool true) ∧ Ext w w' := by
  have e1 := fun W (g : Ext w W) => iencode_any va vc A L C hA hC hL0 hL1 W (Rd.ext ra g) (Rd.ext rc g)
  have e2 := fun W (g : Ext w W) => rencode_any va vc A L C hA hC hL0 hL1 W (Rd.ext ra g) (Rd.ext rc g)
  obtain ⟨aa, ca, rfl, a1, a2, a3⟩ := Rd.shape ra
  obtain ⟨ac, cc, rfl, c1, c2, c3⟩ := Rd.shape rc
  obtain ⟨m, hm⟩ : ∃ m, A.length = m := ⟨_, rfl⟩
  obtain ⟨n, hn⟩ : ∃ n, C.length = n := ⟨_, rfl⟩
  obtain ⟨T, hT⟩ : ∃ T, encF A L C = T := ⟨_, rfl⟩
  rw [hT] at e1 e2
  obtain ⟨f, D⟩ := T
  rw [hm] at a1
  rw [hn] at c1
  simp only [hm, hn] at e1 e2 ⊢
  have hX0 := (Ext.refl w).alloc (.cells #[.slice aa m ca, .int .i64 L, .slice ac n cc] 33)
  have HB := Blk.new w [.slice aa m ca, .int .i64 L, .slice ac n cc] 33
  have haw := awake_any
  replace haw := hidden haw
  replace e1 := hidden e1
  replace e2 := hidden e2
  clear ra rc hm hn hT hA hC
  by_cases hbig : 40 < m
  · go_enter Try.func4, Try.ntmps4
    go_wp2_with fail
    refine (haw.out _).mono ?_
    rintro e w1 ⟨rfl, g1⟩
    go_wp2_with fail
    go_ret
    exact ⟨rfl, hX0.trans g1⟩
  · by_cases hbig2 : 2000 < n
    · go_enter Try.func4, Try.ntmps4
      go_wp2_with fail
      refine (haw.out _).mono ?_
      rintro e w1 ⟨rfl, g1⟩
      go_wp2_with fail
      go_ret
      exact ⟨rfl, hX0.trans g1⟩
    · go_enter Try.func4, Try.ntmps4
      go_wp2_with fail
      refine (e1.out _ hX0).mono ?_
      rintro e w1 ⟨b, rfl, hO1, g1⟩
      have HB1 := HB.ext g1
      have X1 := hX0.trans g1
      have p0 := HB1.cell 0 _ rfl
      have p1 := HB1.cell 1 _ rfl
      have p2 := HB1.cell 2 _ rfl
      go_wp2_with fail
      refine (e2.out _ X1).mono ?_
      rintro e w2 ⟨c, rfl, hO2, g2⟩
      have hsb := same_any b c D D _ (Rd.ext hO1.rd g2) hO2.rd
      simp only [decide_true] at hsb
      replace hsb := hidden hsb
      clear p0 p1 p2
      go_wp2_with fail
      refine hsb.out.mono ?_
      rintro e w3 ⟨rfl, g3⟩
      go_wp2_with fail
      refine (haw.out _).mono ?_
      rintro e w4 ⟨rfl, g4⟩
      go_wp2_with fail
      go_ret
      exact ⟨rfl, ((X1.trans g2).trans g3).trans g4⟩
end Go.Proofs.Ytchkbidekmaaiaa
