/- The reference's Decode. -/
import Derived.Test.YtnodnfmgklkjeaaCo
namespace Go.Proofs.Ytnodnfmgklkjeaa
open Go.RowKit
set_option linter.unusedVariables false
attribute [local go_sem ↓] Go.wp_at_zero Go.wp_at_succ

set_option maxHeartbeats 1000000 in
theorem rdecode_bad1 (wd c p : Int) (v : Value) (l : List Int) (w : World) (h : Rd8 w v l) (hc : chk wd l.length ≠ 0) :
    Calls Try.prog 23 #[.agg #[.int .u32 wd, .int .u32 c, v], .int .i64 p] w fun x w' => DecPost w (decF wd c l p) x w' := by
  have hE : decF wd c l p = (chk wd l.length, 0, 0, 0, []) := by unfold decF; rw [if_pos hc]
  rw [hE]
  obtain ⟨k, hk⟩ : ∃ k, chk wd l.length = k := ⟨_, rfl⟩
  have hz : (k != 0) = true := by rw [← hk]; simp [hc]
  rw [hk]
  have Hk := hidden hk
  clear hc hE hk
  obtain ⟨a, cap, rfl, h1, h2, h3⟩ := Rd.shape h
  have W0B : Blk ((w.alloc (.cells #[.int .u32 wd, .int .u32 c, .slice a l.length cap] 44)).alloc (.cells #[.int .u32 0, .int .u32 0, .slice none 0 0] 44)) w.heap.size 44 [.int .u32 wd, .int .u32 c, .slice a l.length cap] := (Blk.new w [.int .u32 wd, .int .u32 c, .slice a l.length cap] _).alloc _
  have W0Z : Blk ((w.alloc (.cells #[.int .u32 wd, .int .u32 c, .slice a l.length cap] 44)).alloc (.cells #[.int .u32 0, .int .u32 0, .slice none 0 0] 44)) (w.heap.size + 1) 44 [.int .u32 0, .int .u32 0, .slice none 0 0] := by
    have := Blk.new (w.alloc (.cells #[.int .u32 wd, .int .u32 c, .slice a l.length cap] 44)) [.int .u32 0, .int .u32 0, .slice none 0 0] 44
    rw [World.size_alloc] at this
    exact this
  have W0R : Rd8 ((w.alloc (.cells #[.int .u32 wd, .int .u32 c, .slice a l.length cap] 44)).alloc (.cells #[.int .u32 0, .int .u32 0, .slice none 0 0] 44)) (.slice a l.length cap) l := Rd.alloc (Rd.alloc h _) _
  have W0E : Ext w ((w.alloc (.cells #[.int .u32 wd, .int .u32 c, .slice a l.length cap] 44)).alloc (.cells #[.int .u32 0, .int .u32 0, .slice none 0 0] 44)) := ((Ext.refl w).alloc _).alloc _
  go_enter Try.func23, Try.ntmps23
  go_wp2_with fail
  refine (rcheckd_any _ _ _ l _ W0R).mono ?_
  rw [Hk.out]
  rintro e w1 ⟨rfl, g1⟩
  have W1B := W0B.ext g1
  have W1Z := W0Z.ext g1
  have pb0 := W1B.cell 0 _ rfl
  have pb1 := W1B.cell 1 _ rfl
  have pb2 := W1B.cell 2 _ rfl
  have pz0 := W1Z.cell 0 _ rfl
  have pz1 := W1Z.cell 1 _ rfl
  have pz2 := W1Z.cell 2 _ rfl
  have py0 := W1Z.frozen 0
  have py1 := W1Z.frozen 1
  have py2 := W1Z.frozen 2
  go_wp2_with fail
  refine bodyPost_ret (v := .tuple #[.int .i64 0, .agg #[.int .u32 0, .int .u32 0, .slice none 0 0], .int .i64 k]) (by simp [results, Try.results23, go_sem, pz0, pz1, pz2]) rfl ?_
  refine ⟨none, 0, rfl, Rd8.nil _, ?_⟩
  exact (((Chg.of_ext [] (W0E.trans g1)).setCell (Or.inr (by simp)) _).setCell (Or.inr (by simp)) _).setCell (Or.inr (by simp)) _ |>.ext

set_option maxHeartbeats 1000000 in
theorem rdecode_bad2 (wd c p : Int) (v : Value) (l : List Int) (w : World) (h : Rd8 w v l) (hc : chk wd l.length = 0) (hp : prb p = false) :
    Calls Try.prog 23 #[.agg #[.int .u32 wd, .int .u32 c, v], .int .i64 p] w fun x w' => DecPost w (decF wd c l p) x w' := by
  have hE : decF wd c l p = (2, 0, 0, 0, []) := by unfold decF; rw [if_neg (by simp [hc]), if_pos hp]
  rw [hE]
  have Hk := hidden hc
  have hp2 : p < 1 ∨ (1 ≤ p ∧ 4095 < p) := by simp [prb] at hp; omega
  clear hc hE hp
  obtain ⟨a, cap, rfl, h1, h2, h3⟩ := Rd.shape h
  have W0B : Blk ((w.alloc (.cells #[.int .u32 wd, .int .u32 c, .slice a l.length cap] 44)).alloc (.cells #[.int .u32 0, .int .u32 0, .slice none 0 0] 44)) w.heap.size 44 [.int .u32 wd, .int .u32 c, .slice a l.length cap] := (Blk.new w [.int .u32 wd, .int .u32 c, .slice a l.length cap] _).alloc _
  have W0Z : Blk ((w.alloc (.cells #[.int .u32 wd, .int .u32 c, .slice a l.length cap] 44)).alloc (.cells #[.int .u32 0, .int .u32 0, .slice none 0 0] 44)) (w.heap.size + 1) 44 [.int .u32 0, .int .u32 0, .slice none 0 0] := by
    have := Blk.new (w.alloc (.cells #[.int .u32 wd, .int .u32 c, .slice a l.length cap] 44)) [.int .u32 0, .int .u32 0, .slice none 0 0] 44
    rw [World.size_alloc] at this
    exact this
  have W0R : Rd8 ((w.alloc (.cells #[.int .u32 wd, .int .u32 c, .slice a l.length cap] 44)).alloc (.cells #[.int .u32 0, .int .u32 0, .slice none 0 0] 44)) (.slice a l.length cap) l := Rd.alloc (Rd.alloc h _) _
  have W0E : Ext w ((w.alloc (.cells #[.int .u32 wd, .int .u32 c, .slice a l.length cap] 44)).alloc (.cells #[.int .u32 0, .int .u32 0, .slice none 0 0] 44)) := ((Ext.refl w).alloc _).alloc _
  rcases hp2 with hp3 | ⟨hp3, hp4⟩
  · go_enter Try.func23, Try.ntmps23
    go_wp2_with fail
    refine (rcheckd_any _ _ _ l _ W0R).mono ?_
    rw [Hk.out]
    rintro e w1 ⟨rfl, g1⟩
    have W1B := W0B.ext g1
    have W1Z := W0Z.ext g1
    have pb0 := W1B.cell 0 _ rfl
    have pb1 := W1B.cell 1 _ rfl
    have pb2 := W1B.cell 2 _ rfl
    have pz0 := W1Z.cell 0 _ rfl
    have pz1 := W1Z.cell 1 _ rfl
    have pz2 := W1Z.cell 2 _ rfl
    have py0 := W1Z.frozen 0
    have py1 := W1Z.frozen 1
    have py2 := W1Z.frozen 2
    go_wp2_with fail
    refine bodyPost_ret (v := .tuple #[.int .i64 0, .agg #[.int .u32 0, .int .u32 0, .slice none 0 0], .int .i64 2]) (by simp [results, Try.results23, go_sem, pz0, pz1, pz2]) rfl ?_
    refine ⟨none, 0, rfl, Rd8.nil _, ?_⟩
    exact (((Chg.of_ext [] (W0E.trans g1)).setCell (Or.inr (by simp)) _).setCell (Or.inr (by simp)) _).setCell (Or.inr (by simp)) _ |>.ext
  · go_enter Try.func23, Try.ntmps23
    go_wp2_with fail
    refine (rcheckd_any _ _ _ l _ W0R).mono ?_
    rw [Hk.out]
    rintro e w1 ⟨rfl, g1⟩
    have W1B := W0B.ext g1
    have W1Z := W0Z.ext g1
    have pb0 := W1B.cell 0 _ rfl
    have pb1 := W1B.cell 1 _ rfl
    have pb2 := W1B.cell 2 _ rfl
    have pz0 := W1Z.cell 0 _ rfl
    have pz1 := W1Z.cell 1 _ rfl
    have pz2 := W1Z.cell 2 _ rfl
    have py0 := W1Z.frozen 0
    have py1 := W1Z.frozen 1
    have py2 := W1Z.frozen 2
    go_wp2_with fail
    refine bodyPost_ret (v := .tuple #[.int .i64 0, .agg #[.int .u32 0, .int .u32 0, .slice none 0 0], .int .i64 2]) (by simp [results, Try.results23, go_sem, pz0, pz1, pz2]) rfl ?_
    refine ⟨none, 0, rfl, Rd8.nil _, ?_⟩
    exact (((Chg.of_ext [] (W0E.trans g1)).setCell (Or.inr (by simp)) _).setCell (Or.inr (by simp)) _).setCell (Or.inr (by simp)) _ |>.ext

set_option maxHeartbeats 1000000 in
theorem rdecode_ok (wd c p : Int) (v : Value) (l : List Int) (w : World) (h : Rd8 w v l) (hc : chk wd l.length = 0) (hp : prb p = true) (hb : Bytes l) (hl0 : 0 ≤ c) (hl1 : c ≤ 4294967295) (hw1 : wd ≤ 4294967295) :
    Calls Try.prog 23 #[.agg #[.int .u32 wd, .int .u32 c, v], .int .i64 p] w fun x w' => DecPost w (decF wd c l p) x w' := by
  obtain ⟨c1, c2⟩ := chk_zero hc
  obtain ⟨c3, c4⟩ : 1 ≤ p ∧ p ≤ 4095 := by simp [prb] at hp; omega
  have hlen2 : (dec wd c l p).2.2.length ≤ 900000 := by have := deN_len 3 (encWd wd p (decBit wd c p)) (decC wd c p) l; unfold dec; omega
  obtain ⟨b0, b1, b2⟩ := bound_bd wd p (by omega) hw1 (by omega) c4
  have b3 : 1 ≤ wd / 4096 * p := by have : wd / 4096 * 1 ≤ wd / 4096 * p := Int.mul_le_mul_of_nonneg_left c3 (by omega)
                                    omega
  obtain ⟨bd, hbd⟩ : ∃ bd, wd / 4096 * p = bd := ⟨_, rfl⟩
  have hwp : IntKind.u32.wrap p = p := IntWalk.u32_in _ (by omega)
  obtain ⟨R, hR⟩ : ∃ R, dec wd c l p = R := ⟨_, rfl⟩
  have hE : decF wd c l p = (0, decBit wd c p, R.1, R.2.1, R.2.2) := by unfold decF; rw [if_neg (by simp [hc]), if_neg (by simp [hp]), hR]
  rw [hE]
  rw [hR] at hlen2
  have Hk := hidden hc
  have Hp := hidden hp
  have HR := hidden hR
  clear hc hE hp hR
  obtain ⟨a, cap, rfl, h1, h2, h3⟩ := Rd.shape h
  have W0B : Blk ((w.alloc (.cells #[.int .u32 wd, .int .u32 c, .slice a l.length cap] 44)).alloc (.cells #[.int .u32 0, .int .u32 0, .slice none 0 0] 44)) w.heap.size 44 [.int .u32 wd, .int .u32 c, .slice a l.length cap] := (Blk.new w [.int .u32 wd, .int .u32 c, .slice a l.length cap] _).alloc _
  have W0Z : Blk ((w.alloc (.cells #[.int .u32 wd, .int .u32 c, .slice a l.length cap] 44)).alloc (.cells #[.int .u32 0, .int .u32 0, .slice none 0 0] 44)) (w.heap.size + 1) 44 [.int .u32 0, .int .u32 0, .slice none 0 0] := by
    have := Blk.new (w.alloc (.cells #[.int .u32 wd, .int .u32 c, .slice a l.length cap] 44)) [.int .u32 0, .int .u32 0, .slice none 0 0] 44
    rw [World.size_alloc] at this
    exact this
  have W0R : Rd8 ((w.alloc (.cells #[.int .u32 wd, .int .u32 c, .slice a l.length cap] 44)).alloc (.cells #[.int .u32 0, .int .u32 0, .slice none 0 0] 44)) (.slice a l.length cap) l := Rd.alloc (Rd.alloc h _) _
  have W0E : Ext w ((w.alloc (.cells #[.int .u32 wd, .int .u32 c, .slice a l.length cap] 44)).alloc (.cells #[.int .u32 0, .int .u32 0, .slice none 0 0] 44)) := ((Ext.refl w).alloc _).alloc _
  go_enter Try.func23, Try.ntmps23
  go_wp2_with fail
  refine (rcheckd_any _ _ _ l _ W0R).mono ?_
  rw [Hk.out]
  rintro e w1 ⟨rfl, g1⟩
  have W1B := W0B.ext g1
  have W1Z := W0Z.ext g1
  have pb0 := W1B.cell 0 _ rfl
  have pb1 := W1B.cell 1 _ rfl
  have pb2 := W1B.cell 2 _ rfl
  have pz0 := W1Z.cell 0 _ rfl
  have pz1 := W1Z.cell 1 _ rfl
  have pz2 := W1Z.cell 2 _ rfl
  have py0 := W1Z.frozen 0
  have py1 := W1Z.frozen 1
  have py2 := W1Z.frozen 2
  go_upto_region 7 with fail
  have H1R := W0R.ext g1
  have hs1 := g1.size
  have hz1 := W0Z.lt
  simp at hs1 hz1
  go_cut [9] (fun s wx => ∃ q v', s = .pointer (some ⟨q, 0, none⟩) ∧ Blk wx q 44 [.int .u32 (wd / 4096 * p), .int .u32 c, v'] ∧ Own8 wx w1.heap.size v' l ∧ v'.ownBlock ≠ some q ∧ w1.heap.size ≤ q ∧ Ext w1 wx)
  case first =>
    have n1 := World.new_ne w1 _ pb1
    have n2 := World.new_ne w1 _ pb2
    go_region_held3 (fun w' => w'.cell? ⟨w.heap.size, 1, none⟩ = some (.int .u32 c) ∧ w'.cell? ⟨w.heap.size, 2, none⟩ = some (.slice a l.length cap)) (go_keep)
      (first | (go_at_call 38; refine (rbytes_any _ l (by omega) _ (by first | exact Rd.drew H1R | exact Rd.drew (Rd.alloc H1R _))).mono ?_; rintro e w2 ⟨v2, rfl, hO2, g2⟩; obtain ⟨a2, cc2, rfl, s1, s2, s3⟩ := Rd.shape hO2.rd; have k1 : w2.cell? ⟨w.heap.size, 1, none⟩ = some (.int .u32 c) := g2.cell (by first | exact pb1 | exact (W1B.alloc _).drew.cell 1 _ rfl); have k2 : w2.cell? ⟨w.heap.size, 2, none⟩ = some (.slice a l.length cap) := g2.cell (by first | exact pb2 | exact (W1B.alloc _).drew.cell 2 _ rfl); have gx : Ext w1 w2 := (by first | exact g2.past_drew.past | exact g2.past_drew); have hO3 : Own8 w2 w1.heap.size (.slice a2 l.length cc2) l := own_base hO2 (by simp); have hlt : w1.heap.size ≤ w2.heap.size := gx.size; first | (have kb := (Blk.new w1 [.int .u32 0, .int .u32 0, .slice none 0 0] 44).drew.ext g2; have kb0 := kb.cell 0 _ rfl; have kb1 := kb.cell 1 _ rfl; have kb2 := kb.cell 2 _ rfl; have kf0 := kb.frozen 0; have kf1 := kb.frozen 1; have kf2 := kb.frozen 2; have hno : (Value.slice a2 l.length cc2).ownBlock ≠ some w1.heap.size := (fun hx => by have := (own_lt hO2 hx).1; simp at this; omega)) | skip))
    all_goals
      go_wp2_with fail
      go_meet
      rw [hbd]
      first
        | exact ⟨w1.heap.size, .slice a2 l.length cc2, rfl, ((kb.set 0 _).set 1 _).set 2 _, ownsRow_setCell_other (a := ⟨w1.heap.size, 2, none⟩) (ownsRow_setCell_other (a := ⟨w1.heap.size, 1, none⟩) (ownsRow_setCell_other (a := ⟨w1.heap.size, 0, none⟩) hO3 hno _) hno _) hno _, hno, Nat.le_refl _, ((gx.setCell (Nat.le_refl _) _).setCell (Nat.le_refl _) _).setCell (Nat.le_refl _) _⟩
        | exact ⟨w2.heap.size, .slice a2 l.length cc2, rfl, Blk.new w2 [.int .u32 bd, .int .u32 c, .slice a2 l.length cc2] _, World.ownsRow.alloc hO3 _, fun hx => by (have := (own_lt hO3 hx).2; omega), hlt, gx.alloc _⟩
  case rest =>
    obtain ⟨q, v3, rfl, hB3, hO3, hq3, hqs, g3⟩ := hcut
    rw [hbd] at hB3
    have W3B := W1B.ext g3
    have W3Z := W1Z.ext g3
    have hs3 := g3.size
    have t0 := hB3.cell 0 _ rfl
    have t1 := hB3.cell 1 _ rfl
    have t2 := hB3.cell 2 _ rfl
    have u0 := hB3.frozen 0
    have u1 := hB3.frozen 1
    have u2 := hB3.frozen 2
    have v0 := W3B.cell 0 _ rfl
    have v1 := W3B.cell 1 _ rfl
    have hqn : q ≠ w.heap.size := by omega
    have hqz : q ≠ w.heap.size + 1 := by omega
    have hor3 : ∀ x, x = w.heap.size + 1 ∨ x = q → 0 < l.length → v3.ownBlock ≠ some x := by
      intro x hx _ hv
      have := own_lt hO3 hv
      rcases hx with rfl | rfl
      · omega
      · exact hq3 hv
    have hR3 := hO3.rd
    have gA3 : Chg [] w _ := Chg.of_ext [] ((W0E.trans g1).trans g3)
    go_upto_if 40 with fail
    go_cut [10] (fun s wx => s = .int .i64 (decBit wd c p) ∧ Blk wx q 44 [.int .u32 (encWd wd p (decBit wd c p)), .int .u32 (decC wd c p), v3] ∧ Rd8 wx v3 l ∧ Blk wx (w.heap.size + 1) 44 [.int .u32 0, .int .u32 0, .slice none 0 0] ∧ Chg [] w wx)
    case first =>
      by_cases hcb : bd ≤ c
      · have hd0 : decBit wd c p = 0 := by unfold decBit; rw [if_neg (by omega)]
        have hd1 : encWd wd p 0 = wd - bd := by unfold encWd; rw [if_neg (by decide), hbd]
        have hd2 : decC wd c p = c - bd := by unfold decC; rw [if_neg (by omega), hbd]; omega
        have hwx : IntKind.u32.wrap (wd - bd) = wd - bd := IntWalk.u32_in _ (by omega)
        have hwy : IntKind.u32.wrap (c - bd) = c - bd := IntWalk.u32_in _ (by omega)
        have D0 := hidden hd0
        have D1 := hidden hd1
        have D2 := hidden hd2
        clear hd0 hd1 hd2
        go_wp2_with fail
        go_region
        all_goals
          go_wp2_with fail
          go_meet
          rw [D0.out, D1.out, D2.out]
          have hC := (((Chg.refl [q] wc).setCell (p := ⟨q, 0, none⟩) (Or.inl (by simp)) (.int .u32 (wd - bd))).setCell (p := ⟨q, 1, none⟩) (Or.inl (by simp)) (.int .u32 (c - bd))).drew
          exact ⟨rfl, (hB3.set 0 _).set 1 _, Rd.chg hR3 hC (show ∀ x ∈ [q], _ by intro x hx; simp at hx; subst hx; exact hor3 _ (Or.inr rfl)), W3Z.chg hC (show w.heap.size + 1 ∉ [q] by simp; omega), (gA3.trans hC (show ∀ x ∈ [q], x ∈ [] ∨ w.heap.size ≤ x by intro x hx; simp at hx; subst hx; exact Or.inr (by omega)))⟩
      · have hd0 : decBit wd c p = 1 := by unfold decBit; rw [if_pos (by omega)]
        have hd1 : encWd wd p 1 = bd := by unfold encWd; rw [if_pos rfl, hbd]
        have hd2 : decC wd c p = c := by unfold decC; rw [if_pos (by omega)]
        have D0 := hidden hd0
        have D1 := hidden hd1
        have D2 := hidden hd2
        clear hd0 hd1 hd2
        go_wp2_with fail
        go_meet
        rw [D0.out, D1.out, D2.out]
        exact ⟨rfl, hB3, hR3, W3Z, gA3⟩
    case rest =>
      obtain ⟨rfl, hB4, hR4, hZ4, hC4⟩ := hcut
      have hwb := encWd_bd wd p (decBit wd c p) c1 hw1 c3 c4
      have hcc : 0 ≤ decC wd c p ∧ decC wd c p ≤ 4294967295 := by unfold decC; split <;> omega
      have hqw : w.heap.size + 1 < q := by omega
      go_wp2_with fail
      go_loopg [] 3 (fun k wr => ∃ wd' c' v' l', Blk wr q 44 [.int .u32 wd', .int .u32 c', v'] ∧ Blk wr (w.heap.size + 1) 44 [.int .u32 0, .int .u32 0, .slice none 0 0] ∧ Rd8 wr v' l' ∧ Bytes l' ∧ l'.length ≤ 65536 ∧ (∀ x, x = w.heap.size + 1 ∨ x = q → 0 < l'.length → v'.ownBlock ≠ some x) ∧ Chg [] w wr ∧
        0 < wd' ∧ wd' ≤ 4294967295 ∧ 0 ≤ c' ∧ c' ≤ 4294967295 ∧ Hid (deN k wd' c' l' = R ∧ 16777216 ≤ wd' * 256 ^ k))
      case atStart => exact ⟨_, _, v3, l, hB4, hZ4, hR4, hb, by omega, hor3, hC4, by omega, hwb.2, hcc.1, hcc.2, ⟨HR.out, by omega⟩⟩
      case round =>
        obtain ⟨wd', c', v', l', hBr, hZr, hRr, hbr, hlr, hor, hCr, a0, a1, a2, a3, hq⟩ := hrel
        obtain ⟨a', k', rfl, t1, t2, t3⟩ := Rd.shape hRr
        have r0 := hBr.cell 0 _ rfl
        have r1 := hBr.cell 1 _ rfl
        have r2 := hBr.cell 2 _ rfl
        have f0 := hBr.frozen 0
        have f1 := hBr.frozen 1
        have f2 := hBr.frozen 2
        by_cases hs : wd' < 16777216
        · obtain ⟨k, rfl⟩ : ∃ k, gk = k + 1 := by
            cases gk with
            | zero => have := hq.out.2; simp at this; omega
            | succ k => exact ⟨k, rfl⟩
          go_wp2_with fail
          refine (rshift_any wd' c' _ l' hbr a2 a3 _ hRr).mono ?_
          rintro e w2 ⟨x2, k2, rfl, hR2, ho2, g2⟩
          have hbm := hbr.tail
          have hlm : l'.tail.length ≤ 65536 := by simp; omega
          have hon : Hid (deN k (wd' * 256 % 4294967296) (shC c' l') l'.tail = R ∧ 16777216 ≤ (wd' * 256 % 4294967296) * 256 ^ k) := by
            have h := hq.out
            rw [deN_small _ _ _ _ hs] at h
            refine ⟨h.1, ?_⟩
            rw [Int.emod_eq_of_lt (by omega) (by omega)]
            have h2 := h.2
            rw [Int.pow_succ, Int.mul_comm (256 ^ k), ← Int.mul_assoc] at h2
            exact h2
          obtain ⟨m, hm⟩ : ∃ m, l'.tail = m := ⟨_, rfl⟩
          rw [hm] at hR2 ho2 hbm hlm hon ⊢
          have HM := hidden hm
          clear hm
          have hB2 := hBr.ext g2
          have r0 := hB2.cell 0 _ rfl
          have r1 := hB2.cell 1 _ rfl
          have r2 := hB2.cell 2 _ rfl
          have f0 := hB2.frozen 0
          have f1 := hB2.frozen 1
          have f2 := hB2.frozen 2
          have hZ2 := hZr.ext g2
          have hwd : 0 < wd' * 256 % 4294967296 ∧ wd' * 256 % 4294967296 ≤ 4294967295 := by omega
          have hsb := shC_bd c' l'
          obtain ⟨wn, hwn⟩ : ∃ wn, wd' * 256 % 4294967296 = wn := ⟨_, rfl⟩
          rw [hwn] at hon hwd ⊢
          have HW := hidden hwn
          clear hwn
          go_wp2_with fail
          go_roundg k
          case measure => omega
          case rel =>
            have hC := (((Chg.refl [q] w2).setCell (p := ⟨q, 0, none⟩) (Or.inl (by simp)) (.int .u32 wn)).setCell (p := ⟨q, 1, none⟩) (Or.inl (by simp)) (.int .u32 (shC c' l'))).setCell (p := ⟨q, 2, none⟩) (Or.inl (by simp)) (.slice x2 m.length k2)
            have ho3 : ∀ x, x = w.heap.size + 1 ∨ x = q → 0 < m.length → (Value.slice x2 m.length k2).ownBlock ≠ some x := fun x hx => ho2 x (hor x hx)
            exact ⟨wn, shC c' l', .slice x2 m.length k2, m, ((hB2.set 0 _).set 1 _).set 2 _, hZ2.chg hC (show w.heap.size + 1 ∉ [q] by simp; omega), Rd.chg hR2 hC (show ∀ x ∈ [q], _ by intro x hx; simp at hx; subst hx; exact ho3 _ (Or.inr rfl)), hbm, hlm, ho3, (hCr.trans (Chg.of_ext [] g2) (by simp)).trans hC (show ∀ x ∈ [q], x ∈ [] ∨ w.heap.size ≤ x by intro x hx; simp at hx; subst hx; exact Or.inr (by omega)), hwd.1, hwd.2, hsb.1, hsb.2, hon⟩
        · have he := hq.out.1
          rw [deN_stop _ _ _ _ (by omega)] at he
          subst he
          have z0 := hZr.cell 0 _ rfl
          have z1 := hZr.cell 1 _ rfl
          have z2 := hZr.cell 2 _ rfl
          have y0 := hZr.frozen 0
          have y1 := hZr.frozen 1
          have y2 := hZr.frozen 2
          go_wp2_with fail
          go_region
          all_goals
            go_wp2_with fail
            refine bodyPost_ret (v := .tuple #[.int .i64 (decBit wd c p), .agg #[.int .u32 wd', .int .u32 c', .slice a' l'.length k'], .int .i64 0]) (by simp [results, Try.results23, go_sem, z0, z1, z2]) rfl ?_
            have hC := ((hCr.setCell (p := ⟨w.heap.size + 1, 0, none⟩) (Or.inr (by simp)) (.int .u32 wd')).setCell (p := ⟨w.heap.size + 1, 1, none⟩) (Or.inr (by simp)) (.int .u32 c')).setCell (p := ⟨w.heap.size + 1, 2, none⟩) (Or.inr (by simp)) (.slice a' l'.length k')
            have hD := (((Chg.refl [w.heap.size + 1] wr).setCell (p := ⟨w.heap.size + 1, 0, none⟩) (Or.inl (by simp)) (.int .u32 wd')).setCell (p := ⟨w.heap.size + 1, 1, none⟩) (Or.inl (by simp)) (.int .u32 c')).setCell (p := ⟨w.heap.size + 1, 2, none⟩) (Or.inl (by simp)) (.slice a' l'.length k')
            exact ⟨a', k', rfl, Rd.drew (Rd.chg hRr hD (show ∀ x ∈ [w.heap.size + 1], _ by intro x hx; simp at hx; subst hx; exact hor _ (Or.inl rfl))), hC.drew.ext⟩

theorem rDecode_any (wd c p : Int) (v : Value) (l : List Int) (hb : Bytes l) (hl0 : 0 ≤ c) (hl1 : c ≤ 4294967295) (hw1 : wd ≤ 4294967295) (w : World) (h : Rd8 w v l) :
    Calls Try.prog 23 #[.agg #[.int .u32 wd, .int .u32 c, v], .int .i64 p] w fun x w' => DecPost w (decF wd c l p) x w' := by
  by_cases hc : chk wd l.length = 0
  · cases hp : prb p
    · exact rdecode_bad2 wd c p v l w h hc hp
    · exact rdecode_ok wd c p v l w h hc hp hb hl0 hl1 hw1
  · exact rdecode_bad1 wd c p v l w h hc

end Go.Proofs.Ytnodnfmgklkjeaa
