/- The law CoderReturns: the walk. -/
import Derived.Test.YtnodnfmgklkjeaaCy
namespace Go.Proofs.Ytnodnfmgklkjeaa
open Go.RowKit
set_option linter.unusedVariables false
attribute [local go_sem ↓] Go.wp_at_zero Go.wp_at_succ

set_option maxHeartbeats 1000000 in
theorem CoderReturns_law (v : Value) (l : List (Bool × Int)) (hu : U16 l) (w : World) (h : RdS w v l) :
    Calls Try.prog 7 #[v] w fun x w' => x = .returned (.bool true) ∧ Ext w w' := by
  obtain ⟨a, cap, rfl, h1, h2, h3⟩ := Rd.shape h
  by_cases hlen : 600 < l.length
  · have hlt : (600 : Int) < (l.length : Int) := by omega
    go_enter Try.func7, Try.ntmps7
    go_wp2_with fail
    refine (awake_any _).mono ?_
    rintro e w1 ⟨rfl, g1⟩
    go_wp2_with fail
    go_ret
    exact ⟨rfl, g1⟩
  · have hlt : ¬ (600 : Int) < (l.length : Int) := by omega
    have hl : l.length ≤ 10000 := by omega
    have hcl := codeOf_len l
    have hfst := dcAt_first l
    go_enter Try.func7, Try.ntmps7
    go_wp2_with fail
    refine (code_any _ l hu hl _ h).mono ?_
    rintro e w1 ⟨a1, k1, rfl, hR1, g1⟩
    obtain ⟨s1, s2, s3, s4, s5, s6⟩ := Rd.shape hR1
    go_wp2_with fail
    refine (Open_any _ (codeOf l) (codeOf_bytes l) (by omega) _ hR1).mono ?_
    rw [hfst]
    rintro e w2 ⟨a2, k2, rfl, hR2, g2⟩
    obtain ⟨⟨wd0, cd0, r0⟩, hs0⟩ : ∃ s, dcAt l 0 = s := ⟨_, rfl⟩
    rw [hs0] at hR2
    rw [hs0]
    simp only at hR2 ⊢
    have C1 := Blk.new w2 [.int .u32 wd0, .int .u32 cd0, .slice a2 r0.length k2] 44
    have E1 : Ext w (w2.alloc (.cells #[.int .u32 wd0, .int .u32 cd0, .slice a2 r0.length k2] 44)) := (g1.trans g2).alloc _
    have O1 := Rd.off hR2 (Nat.le_refl _)
    have R1 := Rd.alloc hR2 (.cells #[.int .u32 wd0, .int .u32 cd0, .slice a2 r0.length k2] 44)
    obtain ⟨qd, hqd⟩ : ∃ q, w2.heap.size = q := ⟨_, rfl⟩
    have hsz := (g1.trans g2).size
    rw [hqd] at C1 hsz O1
    clear hfst
    have hs0 := hidden hs0
    go_wp2_with fail
    go_loopw [4, 6] (fun ok i wr => ∃ (k : Nat) (wd cd : Int) (v' : Value) (rest : List Int), k ≤ l.length ∧ ok = .bool true ∧ i = .int .i64 k ∧ dcAt l k = (wd, cd, rest) ∧ Blk wr qd 44 [.int .u32 wd, .int .u32 cd, v'] ∧ Rd8 wr v' rest ∧ (0 < rest.length → v'.ownBlock ≠ some qd) ∧ Ext w wr) (fun _ i _ => (l.length - intOf i).toNat)
    case atStart => exact ⟨0, wd0, cd0, .slice a2 r0.length k2, r0, by omega, rfl, rfl, hs0.out, C1, R1, O1, E1⟩
    case round =>
      obtain ⟨k, wd, cd, v', rest, hk, rfl, rfl, hst, hB, hR, ho, hE⟩ := hrel
      obtain ⟨av, kv, rfl, s1, s2, s3⟩ := Rd.shape hR
      by_cases hlt : k < l.length
      · have hlt' : (k : Int) < (l.length : Int) := by omega
        obtain ⟨pb, po, rfl⟩ : ∃ b off, a = some ⟨b, off, none⟩ := by
          obtain ⟨_, a', cap', h2, _, _, _, h6⟩ := h
          simp only [Value.slice.injEq] at h2
          obtain ⟨rfl, -, -⟩ := h2
          obtain ⟨b', off', e, -, -⟩ := h6 (by omega)
          exact ⟨b', off', e⟩
        obtain ⟨x1, x2⟩ := RdS.at h k hlt
        have hxu : 0 ≤ (l.getD k (false, 0)).2 ∧ (l.getD k (false, 0)).2 ≤ 65535 := by
          simp only [List.getD, hlt, List.getElem?_eq_getElem, Option.getD_some]
          exact hu _ (List.getElem_mem hlt)
        obtain ⟨hok, w0, w1, c0, c1, hby⟩ := dcAt_step l hl k hlt
        rw [hst] at hok w0 w1 c0 c1 hby
        obtain ⟨x, hx⟩ : ∃ x, l.getD k (false, 0) = x := ⟨_, rfl⟩
        rw [hx] at x1 x2 hxu hok
        obtain ⟨⟨wd2, cd2, rest2⟩, hnx⟩ : ∃ s, dcAt l (k + 1) = s := ⟨_, rfl⟩
        rw [hnx] at hok
        have hok' : decF wd cd rest (pOf x) = (0, bitOf x, wd2, cd2, rest2) := hok
        have y1 := hE.cell x1
        have y2 := hE.cell x2
        have d0 := hB.cell 0 _ rfl
        have d1 := hB.cell 1 _ rfl
        have d2 := hB.cell 2 _ rfl
        obtain ⟨u0, u1⟩ := hxu
        have n0 := World.new_ne wr _ y1
        have n1 := World.new_ne wr _ y2
        have n2 := World.new_ne wr _ d0
        have n3 := World.new_ne wr _ d1
        have n4 := World.new_ne wr _ d2
        have hnx := hidden hnx
        go_upto_region 8 with fail
        go_cut [7, 8, 9] (fun s7 s8 s9 wx => ∃ q a2 k2, s7 = .int .i64 (bitOf x) ∧ s8 = .pointer (some ⟨q, 0, none⟩) ∧ s9 = .int .i64 0 ∧ Blk wx q 44 [.int .u32 wd2, .int .u32 cd2, .slice a2 rest2.length k2] ∧ Rd8 wx (.slice a2 rest2.length k2) rest2 ∧ Ext wr wx)
        case first =>
          go_region_held3 (fun w' => w'.cell? ⟨pb, po + k * 2, none⟩ = some (.bool x.1) ∧ w'.cell? ⟨pb, po + k * 2 + 1, none⟩ = some (.int .u16 x.2) ∧ w'.cell? ⟨qd, 0, none⟩ = some (.int .u32 wd) ∧ w'.cell? ⟨qd, 1, none⟩ = some (.int .u32 cd) ∧ w'.cell? ⟨qd, 2, none⟩ = some (.slice av rest.length kv)) (go_keep)
            (first | (go_at_call 30; refine (p_any x u0 u1 _).mono ?_; rintro e w5 ⟨rfl, g5⟩; (first | (have kq := newb (wr := wr) (t := 44) (cs := [.int .u32 0, .int .u32 0, .slice none 0 0]) (by first | exact gX.size | exact Nat.le_refl _) g5; have kb := kq.2; have kb0 := kb.cell 0 _ rfl; have kb1 := kb.cell 1 _ rfl; have kb2 := kb.cell 2 _ rfl; have kf0 := kb.frozen 0; have kf1 := kb.frozen 1; have kf2 := kb.frozen 2) | (have kq := newb_drew (wr := wr) (t := 44) (cs := [.int .u32 0, .int .u32 0, .slice none 0 0]) (by first | exact gX.size | exact Nat.le_refl _) g5; have kb := kq.2; have kb0 := kb.cell 0 _ rfl; have kb1 := kb.cell 1 _ rfl; have kb2 := kb.cell 2 _ rfl; have kf0 := kb.frozen 0; have kf1 := kb.frozen 1; have kf2 := kb.frozen 2) | (have kb := kb.ext g5; have kb0 := kb.cell 0 _ rfl; have kb1 := kb.cell 1 _ rfl; have kb2 := kb.cell 2 _ rfl; have kf0 := kb.frozen 0; have kf1 := kb.frozen 1; have kf2 := kb.frozen 2) | skip); have gX : Ext wr w5 := (by first | exact Ext.trans gX g5 | exact (Ext.trans gX g5.past) | exact g5.past_drew | exact g5.past_drew.past | exact g5); have j0 : w5.cell? ⟨pb, po + k * 2, none⟩ = some (.bool x.1) := gX.cell y1; have j1 : w5.cell? ⟨pb, po + k * 2 + 1, none⟩ = some (.int .u16 x.2) := gX.cell y2; have j2 : w5.cell? ⟨qd, 0, none⟩ = some (.int .u32 wd) := gX.cell d0; have j3 : w5.cell? ⟨qd, 1, none⟩ = some (.int .u32 cd) := gX.cell d1; have j4 : w5.cell? ⟨qd, 2, none⟩ = some (.slice av rest.length kv) := gX.cell d2; have m0 := World.new_ne w5 _ j0; have m1 := World.new_ne w5 _ j1; have m2 := World.new_ne w5 _ j2; have m3 := World.new_ne w5 _ j3; have m4 := World.new_ne w5 _ j4) | (go_at_call 22; refine (Decode_any wd cd (pOf x) _ rest hby c0 c1 w1 _ (by first | exact Rd.ext hR gX | exact Rd.alloc (Rd.ext hR gX) _ | exact Rd.drew hR | exact Rd.drew (Rd.alloc hR _) | exact hR)).mono ?_; rw [hok']; rintro e w5 ⟨a5, k5, rfl, hR5, g5⟩; (first | (have kq := newb (wr := wr) (t := 44) (cs := [.int .u32 0, .int .u32 0, .slice none 0 0]) (by first | exact gX.size | exact Nat.le_refl _) g5; have kb := kq.2; have kb0 := kb.cell 0 _ rfl; have kb1 := kb.cell 1 _ rfl; have kb2 := kb.cell 2 _ rfl; have kf0 := kb.frozen 0; have kf1 := kb.frozen 1; have kf2 := kb.frozen 2) | (have kq := newb_drew (wr := wr) (t := 44) (cs := [.int .u32 0, .int .u32 0, .slice none 0 0]) (by first | exact gX.size | exact Nat.le_refl _) g5; have kb := kq.2; have kb0 := kb.cell 0 _ rfl; have kb1 := kb.cell 1 _ rfl; have kb2 := kb.cell 2 _ rfl; have kf0 := kb.frozen 0; have kf1 := kb.frozen 1; have kf2 := kb.frozen 2) | (have kb := kb.ext g5; have kb0 := kb.cell 0 _ rfl; have kb1 := kb.cell 1 _ rfl; have kb2 := kb.cell 2 _ rfl; have kf0 := kb.frozen 0; have kf1 := kb.frozen 1; have kf2 := kb.frozen 2) | skip); have gX : Ext wr w5 := (by first | exact Ext.trans gX g5 | exact (Ext.trans gX g5.past) | exact g5.past_drew | exact g5.past_drew.past | exact g5); have j0 : w5.cell? ⟨pb, po + k * 2, none⟩ = some (.bool x.1) := gX.cell y1; have j1 : w5.cell? ⟨pb, po + k * 2 + 1, none⟩ = some (.int .u16 x.2) := gX.cell y2; have j2 : w5.cell? ⟨qd, 0, none⟩ = some (.int .u32 wd) := gX.cell d0; have j3 : w5.cell? ⟨qd, 1, none⟩ = some (.int .u32 cd) := gX.cell d1; have j4 : w5.cell? ⟨qd, 2, none⟩ = some (.slice av rest.length kv) := gX.cell d2; have m0 := World.new_ne w5 _ j0; have m1 := World.new_ne w5 _ j1; have m2 := World.new_ne w5 _ j2; have m3 := World.new_ne w5 _ j3; have m4 := World.new_ne w5 _ j4))
          all_goals
            go_wp2_with fail
            go_meet
            first
              | exact ⟨w5.heap.size, a5, k5, rfl, rfl, rfl, Blk.new w5 [.int .u32 wd2, .int .u32 cd2, .slice a5 rest2.length k5] _, Rd.alloc hR5 _, gX.alloc _⟩
              | exact ⟨_, a5, k5, rfl, rfl, rfl, ((kb.set 0 _).set 1 _).set 2 _, Rd.chg hR5 ((((Chg.refl [_] w5).setCell (p := ⟨_, 0, none⟩) (Or.inl (List.mem_singleton.2 rfl)) _).setCell (p := ⟨_, 1, none⟩) (Or.inl (List.mem_singleton.2 rfl)) _).setCell (p := ⟨_, 2, none⟩) (Or.inl (List.mem_singleton.2 rfl)) _) (fun x hx => by rw [List.mem_singleton.1 hx]; exact Rd8.off_blk hR5 kb), ((gX.setCell kq.1 _).setCell kq.1 _).setCell kq.1 _⟩
        case rest =>
          obtain ⟨q, a2, k2, rfl, rfl, rfl, hB2, hR2, g2⟩ := hcut
          have z1 := g2.cell y1
          have z2 := g2.cell y2
          go_wp2_with fail
          refine (bit_any x _).mono ?_
          rintro e w6 ⟨rfl, g6⟩
          have hC2 := hB.ext (g2.trans g6)
          have hB3 := hB2.ext g6
          have hR3 := Rd.ext hR2 g6
          have e0 := hB3.cell 0 _ rfl
          have e1 := hB3.cell 1 _ rfl
          have e2 := hB3.cell 2 _ rfl
          have f0 := hC2.frozen 0
          have f1 := hC2.frozen 1
          have f2 := hC2.frozen 2
          have c0 := hC2.cell 0 _ rfl
          have c1 := hC2.cell 1 _ rfl
          have c2 := hC2.cell 2 _ rfl
          have hof := Rd8.off_blk hR3 hC2
          go_wp2_with fail
          go_roundw
          case rel =>
            have hC := (((Chg.refl [qd] w6).setCell (p := ⟨qd, 0, none⟩) (Or.inl (by simp)) (.int .u32 wd2)).setCell (p := ⟨qd, 1, none⟩) (Or.inl (by simp)) (.int .u32 cd2)).setCell (p := ⟨qd, 2, none⟩) (Or.inl (by simp)) (.slice a2 rest2.length k2)
            exact ⟨k + 1, wd2, cd2, .slice a2 rest2.length k2, rest2, by omega, rfl, by go_num, hnx.out, ((hC2.set 0 _).set 1 _).set 2 _, Rd.chg hR3 hC (show ∀ x ∈ [qd], _ by intro x hx; simp at hx; subst hx; exact hof), hof, ((((hE.trans g2).trans g6).setCell hsz _).setCell hsz _).setCell hsz _⟩
          case measure => simp [intOf]; omega
      · have hge : ¬ (k : Int) < (l.length : Int) := by omega
        go_wp2_with fail
        refine (awake_any _).mono ?_
        rintro e w5 ⟨rfl, g5⟩
        go_wp2_with fail
        go_ret
        exact ⟨rfl, hE.trans g5⟩

end Go.Proofs.Ytnodnfmgklkjeaa
