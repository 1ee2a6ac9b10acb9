/- InstructionApplies, InstructionChecks: the walks. -/
import Derived.Test.YtchkbidekmaaiaaJw
import Derived.Test.YtchkbidekmaaiaaIg
import Derived.Test.YtchkbidekmaaiaaBt3
import Derived.Test.YtchkbidekmaaiaaJd
import Derived.Test.YtchkbidekmaaiaaJe
import Derived.Test.YtchkbidekmaaiaaJf
namespace Go.Proofs.Ytchkbidekmaaiaa
open Go.RowKit
set_option linter.unusedVariables false
attribute [local go_sem ↓] Go.wp_at_zero Go.wp_at_succ

theorem InstructionApplies_law (op a b : Int) (h0 : -9223372036854775808 ≤ op) (h1 : op ≤ 9223372036854775807) (a0 : 0 ≤ a) (a1 : a ≤ 4294967295) (b0 : 0 ≤ b) (b1 : b ≤ 4294967295) (w : World) :
    Calls Try.prog 3 #[.int .i64 op, .int .u32 a, .int .u32 b] w fun x w' => x = .returned (.bool true) ∧ Ext w w' := by
  have c1 := iapply_any op a b a0 a1 b0 b1
  have c2 := rapply_any op a b a0 a1 b0 b1
  obtain ⟨T, hT⟩ : ∃ T, apF op a b = T := ⟨_, rfl⟩
  rw [hT] at c1 c2
  obtain ⟨p, q⟩ := T
  simp only at c1 c2
  replace c1 := hidden c1
  replace c2 := hidden c2
  clear hT
  go_enter Try.func3, Try.ntmps3
  go_wp2_with fail
  refine (c1.out _).mono ?_
  rintro e w1 ⟨rfl, g1⟩
  go_wp2_with fail
  refine (c2.out _).mono ?_
  rintro e _ ⟨rfl, rfl⟩
  go_wp2_with fail
  refine (awake_any _).mono ?_
  rintro e w2 ⟨rfl, g2⟩
  go_wp2_with fail
  go_ret
  exact ⟨rfl, g1.trans g2⟩

set_option maxHeartbeats 2000000 in
theorem InstructionChecks_law (op arg : Int) (h0 : -9223372036854775808 ≤ op) (h1 : op ≤ 9223372036854775807) (a0 : 0 ≤ arg) (a1 : arg ≤ 4294967295) (w : World) :
    Calls Try.prog 9 #[.agg #[.int .i64 op, .int .u32 arg]] w fun x w' => x = .returned (.bool true) ∧ Ext w w' := by
  have c1 := ieffect_any op
  have c2 := reff_any op
  have c3 := icheck_any op arg a0 a1
  have c4 := rcheckI_any op arg a0 a1
  have c5 := iname_any op
  have c6 := rname_any op
  have c7 := awake_any
  obtain ⟨n, hn⟩ : ∃ n, (opAt op).1 = n := ⟨_, rfl⟩
  obtain ⟨p, hp⟩ : ∃ n, (opAt op).2.1 = n := ⟨_, rfl⟩
  obtain ⟨s, hs⟩ : ∃ n, (opAt op).2.2.1 = n := ⟨_, rfl⟩
  obtain ⟨b, hb⟩ : ∃ n, isOp op = n := ⟨_, rfl⟩
  obtain ⟨c, hc⟩ : ∃ n, chkI op arg = n := ⟨_, rfl⟩
  simp only [hn, hp, hs, hb, hc] at c1 c2 c3 c4 c5 c6
  replace c1 := hidden c1
  replace c2 := hidden c2
  replace c3 := hidden c3
  replace c4 := hidden c4
  replace c5 := hidden c5
  replace c6 := hidden c6
  replace c7 := hidden c7
  clear hn hp hs hb hc
  have B0 := Blk.new w [.int .i64 op, .int .u32 arg] 53
  go_enter Try.func9, Try.ntmps9
  go_wp2_with fail
  refine (c1.out _).mono ?_
  rintro e w1 ⟨rfl, g1⟩
  have B1 := B0.ext g1
  have z0 := B1.cell 0 _ rfl
  have z1 := B1.cell 1 _ rfl
  have X1 := g1.past
  clear B0 g1
  go_wp2_with fail
  refine (c2.out _).mono ?_
  rintro e _ ⟨rfl, rfl⟩
  go_wp2_with fail
  go_region_held3 (fun w' => w'.cell? ⟨w.heap.size, 0, none⟩ = some (.int .i64 op) ∧ w'.cell? ⟨w.heap.size, 1, none⟩ = some (.int .u32 arg)) (go_keep)
    (first
      | (go_at_call 23; refine (c3.out _).mono ?_; rintro e w2 ⟨rfl, g2⟩; have k0 := g2.cell z0; have k1 := g2.cell z1)
      | (go_at_call 24; refine (c4.out _).mono ?_; rintro e w3 ⟨rfl, g3⟩; have j0 := g3.cell k0; have j1 := g3.cell k1)
      | (go_at_call 25; refine (c5.out _).mono ?_; rintro e w4 ⟨rfl, g4⟩; have i0 := g4.cell j0; have i1 := g4.cell j1)
      | (go_at_call 26; refine (c6.out _).mono ?_; rintro e _ ⟨rfl, rfl⟩)
      | (go_at_call 13; refine (c7.out _).mono ?_; rintro e w5 ⟨rfl, g5⟩; have f0 := g5.cell i0; have f1 := g5.cell i1))
  go_wp2_with fail
  go_ret
  exact ⟨rfl, (((X1.drew.trans g2).trans g3).trans g4).trans g5⟩
end Go.Proofs.Ytchkbidekmaaiaa
