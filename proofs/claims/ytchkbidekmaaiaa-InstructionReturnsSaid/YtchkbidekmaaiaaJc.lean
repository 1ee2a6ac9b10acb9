/- Check, Name, Effect. -/
import Derived.Test.YtchkbidekmaaiaaJb
namespace Go.Proofs.Ytchkbidekmaaiaa
open Go.RowKit
set_option linter.unusedVariables false


def chkI (op arg : Int) : Int := if isOp op = false then 1 else if (opAt op).2.2.2.1 ≤ arg then 2 else 0
set_option maxHeartbeats 1000000 in
theorem icheck_any (op arg : Int) (h0 : 0 ≤ arg) (h1 : arg ≤ 4294967295) (w : World) : Calls Try.prog 23 #[.agg #[.int .i64 op, .int .u32 arg]] w fun x w' => x = .returned (.int .i64 (chkI op arg)) ∧ Ext w w' := by
  by_cases k1 : isOp op = true
  · by_cases k2 : (opAt op).2.2.2.1 ≤ arg
    · rw [show chkI op arg = 2 by unfold chkI; rw [if_neg (by simp [k1]), if_pos k2]]
      obtain ⟨n, hn⟩ : ∃ n, (opAt op).1 = n := ⟨_, rfl⟩
      obtain ⟨p, hp⟩ : ∃ n, (opAt op).2.1 = n := ⟨_, rfl⟩
      obtain ⟨q, hq⟩ : ∃ n, (opAt op).2.2.1 = n := ⟨_, rfl⟩
      obtain ⟨l, hl⟩ : ∃ n, (opAt op).2.2.2.1 = n := ⟨_, rfl⟩
      obtain ⟨g, hg⟩ : ∃ n, (opAt op).2.2.2.2 = n := ⟨_, rfl⟩
      have hk := known_any op
      rw [hn, hp, hq, hl, hg] at hk
      rw [k1] at hk
      rw [hl] at k2
      clear k1 hn hp hq hl hg
      have hk := hidden hk
      have B0 := Blk.new w [.int .i64 op, .int .u32 arg] 53
      have E0 : Ext w (w.alloc (.cells #[.int .i64 op, .int .u32 arg] 53)) := (Ext.refl w).alloc _
      go_enter Try.func23, Try.ntmps23
      go_wp2_with fail
      refine (hk.out _).mono ?_
      rintro e1 w1 ⟨rfl, g1⟩
      have Bx := Blk.new w1 [.string n, .string p, .string q, .int .u64 l, .bool g] 75
      replace B0 := (B0.ext g1).alloc (.cells #[.string n, .string p, .string q, .int .u64 l, .bool g] 75)
      replace E0 := (E0.trans g1).alloc (.cells #[.string n, .string p, .string q, .int .u64 l, .bool g] 75)
      have q0 := B0.cell 0 _ rfl
      have q1 := B0.cell 1 _ rfl
      have lb := (Blk.ext (Blk.new w [.int .i64 op, .int .u32 arg] 53) g1).cell 1 _ rfl
      go_wp2_with fail
      go_ret
      exact ⟨rfl, E0⟩
    · rw [show chkI op arg = 0 by unfold chkI; rw [if_neg (by simp [k1]), if_neg k2]]
      obtain ⟨n, hn⟩ : ∃ n, (opAt op).1 = n := ⟨_, rfl⟩
      obtain ⟨p, hp⟩ : ∃ n, (opAt op).2.1 = n := ⟨_, rfl⟩
      obtain ⟨q, hq⟩ : ∃ n, (opAt op).2.2.1 = n := ⟨_, rfl⟩
      obtain ⟨l, hl⟩ : ∃ n, (opAt op).2.2.2.1 = n := ⟨_, rfl⟩
      obtain ⟨g, hg⟩ : ∃ n, (opAt op).2.2.2.2 = n := ⟨_, rfl⟩
      have hk := known_any op
      rw [hn, hp, hq, hl, hg] at hk
      rw [k1] at hk
      rw [hl] at k2
      clear k1 hn hp hq hl hg
      have hk := hidden hk
      have B0 := Blk.new w [.int .i64 op, .int .u32 arg] 53
      have E0 : Ext w (w.alloc (.cells #[.int .i64 op, .int .u32 arg] 53)) := (Ext.refl w).alloc _
      go_enter Try.func23, Try.ntmps23
      go_wp2_with fail
      refine (hk.out _).mono ?_
      rintro e1 w1 ⟨rfl, g1⟩
      have Bx := Blk.new w1 [.string n, .string p, .string q, .int .u64 l, .bool g] 75
      replace B0 := (B0.ext g1).alloc (.cells #[.string n, .string p, .string q, .int .u64 l, .bool g] 75)
      replace E0 := (E0.trans g1).alloc (.cells #[.string n, .string p, .string q, .int .u64 l, .bool g] 75)
      have q0 := B0.cell 0 _ rfl
      have q1 := B0.cell 1 _ rfl
      have lb := (Blk.ext (Blk.new w [.int .i64 op, .int .u32 arg] 53) g1).cell 1 _ rfl
      go_wp2_with fail
      go_ret
      exact ⟨rfl, E0⟩
  · have k3 : isOp op = false := by simpa using k1
    rw [show chkI op arg = 1 by unfold chkI; rw [if_pos k3]]
    obtain ⟨n, hn⟩ : ∃ n, (opAt op).1 = n := ⟨_, rfl⟩
    obtain ⟨p, hp⟩ : ∃ n, (opAt op).2.1 = n := ⟨_, rfl⟩
    obtain ⟨q, hq⟩ : ∃ n, (opAt op).2.2.1 = n := ⟨_, rfl⟩
    obtain ⟨l, hl⟩ : ∃ n, (opAt op).2.2.2.1 = n := ⟨_, rfl⟩
    obtain ⟨g, hg⟩ : ∃ n, (opAt op).2.2.2.2 = n := ⟨_, rfl⟩
    have hk := known_any op
    rw [hn, hp, hq, hl, hg] at hk
    rw [k3] at hk
    clear k1 k3 hn hp hq hl hg
    have hk := hidden hk
    have B0 := Blk.new w [.int .i64 op, .int .u32 arg] 53
    have E0 : Ext w (w.alloc (.cells #[.int .i64 op, .int .u32 arg] 53)) := (Ext.refl w).alloc _
    go_enter Try.func23, Try.ntmps23
    go_wp2_with fail
    refine (hk.out _).mono ?_
    rintro e1 w1 ⟨rfl, g1⟩
    have Bx := Blk.new w1 [.string n, .string p, .string q, .int .u64 l, .bool g] 75
    replace B0 := (B0.ext g1).alloc (.cells #[.string n, .string p, .string q, .int .u64 l, .bool g] 75)
    replace E0 := (E0.trans g1).alloc (.cells #[.string n, .string p, .string q, .int .u64 l, .bool g] 75)
    have q0 := B0.cell 0 _ rfl
    have q1 := B0.cell 1 _ rfl
    have lb := (Blk.ext (Blk.new w [.int .i64 op, .int .u32 arg] 53) g1).cell 1 _ rfl
    go_wp2_with fail
    go_ret
    exact ⟨rfl, E0⟩
theorem iname_any (op : Int) (w : World) : Calls Try.prog 25 #[.int .i64 op] w fun x w' => x = .returned (.string (opAt op).1) ∧ Ext w w' := by
  obtain ⟨b, hb⟩ : ∃ b, isOp op = b := ⟨_, rfl⟩
  obtain ⟨n, hn⟩ : ∃ n, (opAt op).1 = n := ⟨_, rfl⟩
  obtain ⟨p, hp⟩ : ∃ n, (opAt op).2.1 = n := ⟨_, rfl⟩
  obtain ⟨q, hq⟩ : ∃ n, (opAt op).2.2.1 = n := ⟨_, rfl⟩
  obtain ⟨l, hl⟩ : ∃ n, (opAt op).2.2.2.1 = n := ⟨_, rfl⟩
  obtain ⟨g, hg⟩ : ∃ n, (opAt op).2.2.2.2 = n := ⟨_, rfl⟩
  have hk := known_any op
  rw [hn, hp, hq, hl, hg] at hk
  rw [hb] at hk
  rw [hn]
  clear hn hp hq hl hg hb
  have hk := hidden hk
  go_enter Try.func25, Try.ntmps25
  go_wp2_with fail
  refine (hk.out _).mono ?_
  rintro e1 w1 ⟨rfl, g1⟩
  go_wp2_with fail
  go_ret
  exact ⟨rfl, g1.alloc _⟩
theorem ieffect_any (op : Int) (w : World) : Calls Try.prog 21 #[.int .i64 op] w fun x w' => x = .returned (.tuple #[.string (opAt op).2.1, .string (opAt op).2.2.1, .bool (isOp op)]) ∧ Ext w w' := by
  obtain ⟨b, hb⟩ : ∃ b, isOp op = b := ⟨_, rfl⟩
  obtain ⟨n, hn⟩ : ∃ n, (opAt op).1 = n := ⟨_, rfl⟩
  obtain ⟨p, hp⟩ : ∃ n, (opAt op).2.1 = n := ⟨_, rfl⟩
  obtain ⟨q, hq⟩ : ∃ n, (opAt op).2.2.1 = n := ⟨_, rfl⟩
  obtain ⟨l, hl⟩ : ∃ n, (opAt op).2.2.2.1 = n := ⟨_, rfl⟩
  obtain ⟨g, hg⟩ : ∃ n, (opAt op).2.2.2.2 = n := ⟨_, rfl⟩
  have hk := known_any op
  rw [hn, hp, hq, hl, hg] at hk
  rw [hb] at hk
  rw [hp, hq, hb]
  clear hn hp hq hl hg hb
  have hk := hidden hk
  go_enter Try.func21, Try.ntmps21
  go_wp2_with fail
  refine (hk.out _).mono ?_
  rintro e1 w1 ⟨rfl, g1⟩
  go_upto_region 2 with fail
  go_quiet (fail)
  go_wp2_with fail
  go_ret3
  exact ⟨rfl, (g1.alloc _).drewN _⟩
end Go.Proofs.Ytchkbidekmaaiaa
