/- The laws CoderFinishes, CoderDecodes, CoderOpens: the walks. -/
import Derived.Test.YtnodnfmgklkjeaaCs
namespace Go.Proofs.Ytnodnfmgklkjeaa
open Go.RowKit
set_option linter.unusedVariables false
attribute [local go_sem ↓] Go.wp_at_zero Go.wp_at_succ

set_option maxHeartbeats 1000000 in
theorem CoderFinishes_law (lo wd : Int) (v : Value) (l : List Int) (hl0 : 0 ≤ lo) (hl1 : lo ≤ 4294967295) (hw0 : 0 ≤ wd) (hw1 : wd ≤ 4294967295) (hb : Bytes l) (w : World) (h : Rd8 w v l) :
    Calls Try.prog 4 #[.agg #[.int .u32 lo, .int .u32 wd, v]] w fun x w' => x = .returned (.bool true) ∧ Ext w w' := by
  obtain ⟨a, cap, rfl, h1, h2, h3⟩ := Rd.shape h
  by_cases hlen : 300 < l.length
  · have hlt : (300 : Int) < (l.length : Int) := by omega
    go_enter Try.func4, Try.ntmps4
    go_wp2_with fail
    refine (awake_any _).mono ?_
    rintro e w1 ⟨rfl, g1⟩
    go_wp2_with fail
    go_ret
    exact ⟨rfl, g1.past⟩
  · have hlt : ¬ (300 : Int) < (l.length : Int) := by omega
    obtain ⟨m, hm⟩ : ∃ m, finB lo wd l = m := ⟨_, rfl⟩
    obtain ⟨er, her⟩ : ∃ e, finE lo wd l = e := ⟨_, rfl⟩
    obtain ⟨n, hn⟩ : ∃ n, m.length = n := ⟨_, rfl⟩
    have C0 := Blk.new w [.int .u32 lo, .int .u32 wd, .slice a l.length cap] 25
    have R0 := Rd.alloc h (.cells #[.int .u32 lo, .int .u32 wd, .slice a l.length cap] 25)
    have E0 : Ext w (w.alloc (.cells #[.int .u32 lo, .int .u32 wd, .slice a l.length cap] 25)) := (Ext.refl w).alloc _
    obtain ⟨q, hq⟩ : ∃ q, w.heap.size = q := ⟨_, rfl⟩
    rw [hq] at C0
    go_enter Try.func4, Try.ntmps4
    go_wp2_with fail
    refine (Finish_any lo wd _ l hb hl0 hl1 hw1 _ R0).mono ?_
    rw [hm, her]
    simp only [BytesErr, hn]
    rintro e w1 ⟨a1, k1, rfl, R1, g1⟩
    have C1 := C0.ext g1
    have c0 := C1.cell 0 _ rfl
    have c1 := C1.cell 1 _ rfl
    have c2 := C1.cell 2 _ rfl
    go_wp2_with fail
    refine (rFinish_any lo wd _ l hb hl0 hl1 hw1 _ (Rd.ext R0 g1)).mono ?_
    rw [hm, her]
    simp only [BytesErr, hn]
    rintro e w2 ⟨a2, k2, rfl, R2, g2⟩
    have R1' := Rd.ext R1 g2
    have E2 := (E0.trans g1).trans g2
    clear hm her
    go_wp2_with fail
    refine (awake_any _).mono ?_
    rintro e w3 ⟨rfl, g3⟩
    go_wp2_with fail
    refine (same_same _ _ m _ (Rd.ext R1' g3) (Rd.ext R2 g3)).mono ?_
    rintro e w4 ⟨rfl, g4⟩
    go_wp2_with fail
    go_ret
    exact ⟨rfl, (E2.trans g3).trans g4⟩

set_option maxHeartbeats 1000000 in
theorem CoderOpens_law (v : Value) (l : List Int) (hb : Bytes l) (w : World) (h : Rd8 w v l) :
    Calls Try.prog 6 #[v] w fun x w' => x = .returned (.bool true) ∧ Ext w w' := by
  obtain ⟨a, cap, rfl, h1, h2, h3⟩ := Rd.shape h
  by_cases hlen : 2000 < l.length
  · have hlt : (2000 : Int) < (l.length : Int) := by omega
    go_enter Try.func6, Try.ntmps6
    go_wp2_with fail
    refine (awake_any _).mono ?_
    rintro e w1 ⟨rfl, g1⟩
    go_wp2_with fail
    go_ret
    exact ⟨rfl, g1⟩
  · have hlt : ¬ (2000 : Int) < (l.length : Int) := by omega
    go_enter Try.func6, Try.ntmps6
    have H := hidden h
    go_wp2_with fail
    refine (awake_any _).mono ?_
    rintro e w1 ⟨rfl, g1⟩
    have h4 := Rd.ext H.out g1
    obtain ⟨x0, x1, m, hR⟩ : ∃ x0 x1 m, opF l = (x0, x1, m) := ⟨_, _, _, rfl⟩
    go_wp2_with fail
    refine (Open_any _ l hb (by omega) _ h4).mono ?_
    rw [hR]
    rintro e w2 ⟨a2, k2, rfl, R2, g2⟩
    go_wp2_with fail
    refine (rOpen_any _ l hb (by omega) _ (Rd.ext h4 g2)).mono ?_
    rw [hR]
    rintro e w3 ⟨a3, k3, rfl, R3, g3⟩
    go_wp2_with fail
    refine (rSameDecoder_same x0 x1 _ _ m _ (Rd.ext R2 g3) R3).mono ?_
    rintro e w4 ⟨rfl, g4⟩
    go_wp2_with fail
    go_ret
    exact ⟨rfl, ((g1.trans g2).trans g3).trans g4⟩

end Go.Proofs.Ytnodnfmgklkjeaa
