/- The law CoderDecodes: the walk. -/
import Derived.Test.YtnodnfmgklkjeaaCt
namespace Go.Proofs.Ytnodnfmgklkjeaa
open Go.RowKit
set_option linter.unusedVariables false
attribute [local go_sem ↓] Go.wp_at_zero Go.wp_at_succ

set_option maxHeartbeats 8000000 in
theorem CoderDecodes_law (wd c : Int) (v : Value) (l : List Int) (p : Int) (hw0 : 0 ≤ wd) (hw1 : wd ≤ 4294967295) (hl0 : 0 ≤ c) (hl1 : c ≤ 4294967295) (hb : Bytes l) (_ : -9223372036854775808 ≤ p) (_ : p ≤ 9223372036854775807) (w : World) (h : Rd8 w v l) :
    Calls Try.prog 5 #[.agg #[.int .u32 wd, .int .u32 c, v], .int .i64 p] w fun x w' => x = .returned (.bool true) ∧ Ext w w' := by
  obtain ⟨a, cap, rfl, h1, h2, h3⟩ := Rd.shape h
  by_cases hlen : 300 < l.length
  · have hlt : (300 : Int) < (l.length : Int) := by omega
    go_enter Try.func5, Try.ntmps5
    go_wp2_with fail
    refine (awake_any _).mono ?_
    rintro e w1 ⟨rfl, g1⟩
    go_wp2_with fail
    go_ret
    exact ⟨rfl, g1.past⟩
  · have hlt : ¬ (300 : Int) < (l.length : Int) := by omega
    obtain ⟨er, bt, r1, r2, l', hR⟩ : ∃ er bt r1 r2 l', decF wd c l p = (er, bt, r1, r2, l') := ⟨_, _, _, _, _, rfl⟩
    obtain ⟨ln, hln⟩ : ∃ n, l'.length = n := ⟨_, rfl⟩
    have C0 := Blk.new w [.int .u32 wd, .int .u32 c, .slice a l.length cap] 44
    have R0 := Rd.alloc h (.cells #[.int .u32 wd, .int .u32 c, .slice a l.length cap] 44)
    have E0 : Ext w (w.alloc (.cells #[.int .u32 wd, .int .u32 c, .slice a l.length cap] 44)) := (Ext.refl w).alloc _
    obtain ⟨q, hq⟩ : ∃ q, w.heap.size = q := ⟨_, rfl⟩
    go_enter Try.func5, Try.ntmps5
    go_wp2_with fail
    refine (Decode_any wd c p _ l hb hl0 hl1 hw1 _ R0).mono ?_
    rw [hR]
    simp only [DecPost, hln]
    rintro e w1 ⟨a1, k1, rfl, R1, g1⟩
    rw [hq] at C0
    have C1 := C0.ext g1
    have c0 := C1.cell 0 _ rfl
    have c1 := C1.cell 1 _ rfl
    have c2 := C1.cell 2 _ rfl
    have A1 := Blk.new w1 [.int .u32 r1, .int .u32 r2, .slice a1 ln k1] 44
    have H1 := Rd.alloc (Rd.ext R0 g1) (.cells #[.int .u32 r1, .int .u32 r2, .slice a1 ln k1] 44)
    have RA1 := Rd.alloc R1 (.cells #[.int .u32 r1, .int .u32 r2, .slice a1 ln k1] 44)
    have C1' := C1.alloc (.cells #[.int .u32 r1, .int .u32 r2, .slice a1 ln k1] 44)
    have E1 := (E0.trans g1).alloc (.cells #[.int .u32 r1, .int .u32 r2, .slice a1 ln k1] 44)
    obtain ⟨qa, hqa⟩ : ∃ q, w1.heap.size = q := ⟨_, rfl⟩
    rw [hqa] at A1
    have d0 := C1'.cell 0 _ rfl
    have d1 := C1'.cell 1 _ rfl
    have d2 := C1'.cell 2 _ rfl
    go_wp2_with fail
    refine (rDecode_any wd c p _ l hb hl0 hl1 hw1 _ H1).mono ?_
    rw [hR]
    simp only [DecPost, hln]
    rintro e w2 ⟨a2, k2, rfl, R2, g2⟩
    have C2 := C1'.ext g2
    have A2 := A1.ext g2
    have H2 := Rd.ext H1 g2
    have RA2 := Rd.ext RA1 g2
    have E2 := E1.trans g2
    have B3 := Blk.new w2 [.int .u32 r1, .int .u32 r2, .slice a2 ln k2] 44
    have C3 := C2.alloc (.cells #[.int .u32 r1, .int .u32 r2, .slice a2 ln k2] 44)
    have A3 := A2.alloc (.cells #[.int .u32 r1, .int .u32 r2, .slice a2 ln k2] 44)
    have H3 := Rd.alloc H2 (.cells #[.int .u32 r1, .int .u32 r2, .slice a2 ln k2] 44)
    have RA3 := Rd.alloc RA2 (.cells #[.int .u32 r1, .int .u32 r2, .slice a2 ln k2] 44)
    have RB3 := Rd.alloc R2 (.cells #[.int .u32 r1, .int .u32 r2, .slice a2 ln k2] 44)
    have E3 := E2.alloc (.cells #[.int .u32 r1, .int .u32 r2, .slice a2 ln k2] 44)
    obtain ⟨qb, hqb⟩ : ∃ q, w2.heap.size = q := ⟨_, rfl⟩
    rw [hqb] at B3
    obtain ⟨W, hW⟩ : ∃ W, w2.alloc (.cells #[.int .u32 r1, .int .u32 r2, .slice a2 ln k2] 44) = W := ⟨_, rfl⟩
    rw [hW] at B3 C3 A3 H3 RA3 RB3 E3
    go_upto_region 5 with fail
    try rw [hW]
    clear hW
    clear h h1 h2 h3 hlen hlt hR C0 R0 E0 hq c0 c1 c2 C1 A1 H1 RA1 C1' E1 hqa d0 d1 d2 g1 R1 g2 R2 C2 A2 H2 RA2 E2 hqb hb hl0 hl1 hw1
    have s0 := C3.cell 0 _ rfl
    have s1 := C3.cell 1 _ rfl
    have s2 := C3.cell 2 _ rfl
    have s3 := A3.cell 0 _ rfl
    have s4 := A3.cell 1 _ rfl
    have s5 := A3.cell 2 _ rfl
    have s6 := B3.cell 0 _ rfl
    have s7 := B3.cell 1 _ rfl
    have s8 := B3.cell 2 _ rfl
    clear A3 B3 C3
    go_region_held3 (fun w' => w'.cell? ⟨q, 0, none⟩ = some (.int .u32 wd) ∧ w'.cell? ⟨q, 1, none⟩ = some (.int .u32 c) ∧ w'.cell? ⟨q, 2, none⟩ = some (.slice a l.length cap) ∧ w'.cell? ⟨qa, 0, none⟩ = some (.int .u32 r1) ∧ w'.cell? ⟨qa, 1, none⟩ = some (.int .u32 r2) ∧ w'.cell? ⟨qa, 2, none⟩ = some (.slice a1 ln k1) ∧ w'.cell? ⟨qb, 0, none⟩ = some (.int .u32 r1) ∧ w'.cell? ⟨qb, 1, none⟩ = some (.int .u32 r2) ∧ w'.cell? ⟨qb, 2, none⟩ = some (.slice a2 ln k2)) (go_keep)
      (first | (go_at_call 11; refine (awake_any _).mono ?_; rintro e w5 ⟨rfl, g5⟩; have gX : Ext W w5 := (by first | exact Ext.trans gX g5 | exact g5.past_drew | exact g5); have j0 : w5.cell? ⟨q, 0, none⟩ = some (.int .u32 wd) := g5.cell (by first | exact s0 | exact j0); have j1 : w5.cell? ⟨q, 1, none⟩ = some (.int .u32 c) := g5.cell (by first | exact s1 | exact j1); have j2 : w5.cell? ⟨q, 2, none⟩ = some (.slice a l.length cap) := g5.cell (by first | exact s2 | exact j2); have j3 : w5.cell? ⟨qa, 0, none⟩ = some (.int .u32 r1) := g5.cell (by first | exact s3 | exact j3); have j4 : w5.cell? ⟨qa, 1, none⟩ = some (.int .u32 r2) := g5.cell (by first | exact s4 | exact j4); have j5 : w5.cell? ⟨qa, 2, none⟩ = some (.slice a1 ln k1) := g5.cell (by first | exact s5 | exact j5); have j6 : w5.cell? ⟨qb, 0, none⟩ = some (.int .u32 r1) := g5.cell (by first | exact s6 | exact j6); have j7 : w5.cell? ⟨qb, 1, none⟩ = some (.int .u32 r2) := g5.cell (by first | exact s7 | exact j7); have j8 : w5.cell? ⟨qb, 2, none⟩ = some (.slice a2 ln k2) := g5.cell (by first | exact s8 | exact j8)) | (go_at_call 26; refine (rSameDecoder_same _ _ _ _ _ _ (by first | exact Rd.ext RA3 gX | exact Rd.drew RA3 | exact RA3) (by first | exact Rd.ext RB3 gX | exact Rd.drew RB3 | exact RB3)).mono ?_; rintro e w5 ⟨rfl, g5⟩; have gX : Ext W w5 := (by first | exact Ext.trans gX g5 | exact g5.past_drew | exact g5); have j0 : w5.cell? ⟨q, 0, none⟩ = some (.int .u32 wd) := g5.cell (by first | exact s0 | exact j0); have j1 : w5.cell? ⟨q, 1, none⟩ = some (.int .u32 c) := g5.cell (by first | exact s1 | exact j1); have j2 : w5.cell? ⟨q, 2, none⟩ = some (.slice a l.length cap) := g5.cell (by first | exact s2 | exact j2); have j3 : w5.cell? ⟨qa, 0, none⟩ = some (.int .u32 r1) := g5.cell (by first | exact s3 | exact j3); have j4 : w5.cell? ⟨qa, 1, none⟩ = some (.int .u32 r2) := g5.cell (by first | exact s4 | exact j4); have j5 : w5.cell? ⟨qa, 2, none⟩ = some (.slice a1 ln k1) := g5.cell (by first | exact s5 | exact j5); have j6 : w5.cell? ⟨qb, 0, none⟩ = some (.int .u32 r1) := g5.cell (by first | exact s6 | exact j6); have j7 : w5.cell? ⟨qb, 1, none⟩ = some (.int .u32 r2) := g5.cell (by first | exact s7 | exact j7); have j8 : w5.cell? ⟨qb, 2, none⟩ = some (.slice a2 ln k2) := g5.cell (by first | exact s8 | exact j8)) | (go_at_call 24; refine (checkd_any wd c _ l _ (by first | exact Rd.ext H3 gX | exact Rd.drew H3 | exact H3)).mono ?_; rintro e w5 ⟨rfl, g5⟩; have gX : Ext W w5 := (by first | exact Ext.trans gX g5 | exact g5.past_drew | exact g5); have j0 : w5.cell? ⟨q, 0, none⟩ = some (.int .u32 wd) := g5.cell (by first | exact s0 | exact j0); have j1 : w5.cell? ⟨q, 1, none⟩ = some (.int .u32 c) := g5.cell (by first | exact s1 | exact j1); have j2 : w5.cell? ⟨q, 2, none⟩ = some (.slice a l.length cap) := g5.cell (by first | exact s2 | exact j2); have j3 : w5.cell? ⟨qa, 0, none⟩ = some (.int .u32 r1) := g5.cell (by first | exact s3 | exact j3); have j4 : w5.cell? ⟨qa, 1, none⟩ = some (.int .u32 r2) := g5.cell (by first | exact s4 | exact j4); have j5 : w5.cell? ⟨qa, 2, none⟩ = some (.slice a1 ln k1) := g5.cell (by first | exact s5 | exact j5); have j6 : w5.cell? ⟨qb, 0, none⟩ = some (.int .u32 r1) := g5.cell (by first | exact s6 | exact j6); have j7 : w5.cell? ⟨qb, 1, none⟩ = some (.int .u32 r2) := g5.cell (by first | exact s7 | exact j7); have j8 : w5.cell? ⟨qb, 2, none⟩ = some (.slice a2 ln k2) := g5.cell (by first | exact s8 | exact j8)) | (go_at_call 25; refine (rcheckd_any wd c _ l _ (by first | exact Rd.ext H3 gX | exact Rd.drew H3 | exact H3)).mono ?_; rintro e w5 ⟨rfl, g5⟩; have gX : Ext W w5 := (by first | exact Ext.trans gX g5 | exact g5.past_drew | exact g5); have j0 : w5.cell? ⟨q, 0, none⟩ = some (.int .u32 wd) := g5.cell (by first | exact s0 | exact j0); have j1 : w5.cell? ⟨q, 1, none⟩ = some (.int .u32 c) := g5.cell (by first | exact s1 | exact j1); have j2 : w5.cell? ⟨q, 2, none⟩ = some (.slice a l.length cap) := g5.cell (by first | exact s2 | exact j2); have j3 : w5.cell? ⟨qa, 0, none⟩ = some (.int .u32 r1) := g5.cell (by first | exact s3 | exact j3); have j4 : w5.cell? ⟨qa, 1, none⟩ = some (.int .u32 r2) := g5.cell (by first | exact s4 | exact j4); have j5 : w5.cell? ⟨qa, 2, none⟩ = some (.slice a1 ln k1) := g5.cell (by first | exact s5 | exact j5); have j6 : w5.cell? ⟨qb, 0, none⟩ = some (.int .u32 r1) := g5.cell (by first | exact s6 | exact j6); have j7 : w5.cell? ⟨qb, 1, none⟩ = some (.int .u32 r2) := g5.cell (by first | exact s7 | exact j7); have j8 : w5.cell? ⟨qb, 2, none⟩ = some (.slice a2 ln k2) := g5.cell (by first | exact s8 | exact j8)))
    all_goals
      go_wp2_with fail
      go_ret
      exact ⟨rfl, E3.trans gX⟩

end Go.Proofs.Ytnodnfmgklkjeaa
