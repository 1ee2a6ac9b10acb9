/- The reference's Encode. -/
import Derived.Test.YtnodnfmgklkjeaaCi
namespace Go.Proofs.Ytnodnfmgklkjeaa
open Go.RowKit
set_option linter.unusedVariables false
attribute [local go_sem ↓] Go.wp_at_zero Go.wp_at_succ

theorem own_base {w : World} {B B' : Nat} {e : TypeId} {sz n : Nat} {v : Value} {cs : List Value} (h : w.ownsRow B e sz v n cs) (hb : B' ≤ B) : w.ownsRow B' e sz v n cs :=
  ⟨h.1, h.2.imp id (fun ⟨g, c, cur, e1, e2, r⟩ => ⟨g, c, cur, e1, Nat.le_trans hb e2, r⟩)⟩
/-- The reference adds the carry where the low part wraps round. -/
theorem lo_wrap (lo bd : Int) (h0 : 0 ≤ lo) (h1 : lo ≤ 4294967295) (b0 : 0 ≤ bd) (b1 : bd ≤ 4294967295) : ((lo + bd) % 4294967296 < lo ↔ 4294967296 ≤ lo + bd) := by omega

set_option maxHeartbeats 1000000 in
theorem rencode_bad1 (lo wd bit p : Int) (v : Value) (l : List Int) (w : World) (h : Rd8 w v l) (hc : chk wd l.length ≠ 0) :
    Calls Try.prog 13 #[.agg #[.int .u32 lo, .int .u32 wd, v], .int .i64 bit, .int .i64 p] w fun x w' => EncPost w (encF lo wd l bit p) x w' := by
  have hE : encF lo wd l bit p = (chk wd l.length, 0, 0, []) := by unfold encF; rw [if_pos hc]
  rw [hE]
  obtain ⟨k, hk⟩ : ∃ k, chk wd l.length = k := ⟨_, rfl⟩
  have hz : (k != 0) = true := by rw [← hk]; simp [hc]
  rw [hk]
  have Hk := hidden hk
  clear hc hE hk
  obtain ⟨a, cap, rfl, h1, h2, h3⟩ := Rd.shape h
  have W0B : Blk ((w.alloc (.cells #[.int .u32 lo, .int .u32 wd, .slice a l.length cap] 25)).alloc (.cells #[.int .u32 0, .int .u32 0, .slice none 0 0] 25)) w.heap.size 25 [.int .u32 lo, .int .u32 wd, .slice a l.length cap] := (Blk.new w [.int .u32 lo, .int .u32 wd, .slice a l.length cap] _).alloc _
  have W0Z : Blk ((w.alloc (.cells #[.int .u32 lo, .int .u32 wd, .slice a l.length cap] 25)).alloc (.cells #[.int .u32 0, .int .u32 0, .slice none 0 0] 25)) (w.heap.size + 1) 25 [.int .u32 0, .int .u32 0, .slice none 0 0] := by
    have := Blk.new (w.alloc (.cells #[.int .u32 lo, .int .u32 wd, .slice a l.length cap] 25)) [.int .u32 0, .int .u32 0, .slice none 0 0] 25
    rw [World.size_alloc] at this
    exact this
  have W0R : Rd8 ((w.alloc (.cells #[.int .u32 lo, .int .u32 wd, .slice a l.length cap] 25)).alloc (.cells #[.int .u32 0, .int .u32 0, .slice none 0 0] 25)) (.slice a l.length cap) l := Rd.alloc (Rd.alloc h _) _
  have W0E : Ext w ((w.alloc (.cells #[.int .u32 lo, .int .u32 wd, .slice a l.length cap] 25)).alloc (.cells #[.int .u32 0, .int .u32 0, .slice none 0 0] 25)) := ((Ext.refl w).alloc _).alloc _
  go_enter Try.func13, Try.ntmps13
  go_wp2_with fail
  refine (rcheck_any _ _ _ l _ W0R).mono ?_
  rw [Hk.out]
  rintro e w1 ⟨rfl, g1⟩
  have W1B := W0B.ext g1
  have W1Z := W0Z.ext g1
  have pb0 := W1B.cell 0 _ rfl
  have pb1 := W1B.cell 1 _ rfl
  have pb2 := W1B.cell 2 _ rfl
  have pz0 := W1Z.cell 0 _ rfl
  have pz1 := W1Z.cell 1 _ rfl
  have pz2 := W1Z.cell 2 _ rfl
  have py0 := W1Z.frozen 0
  have py1 := W1Z.frozen 1
  have py2 := W1Z.frozen 2
  go_wp2_with fail
  refine bodyPost_ret (v := .tuple #[.agg #[.int .u32 0, .int .u32 0, .slice none 0 0], .int .i64 k]) (by simp [results, Try.results13, go_sem, pz0, pz1, pz2]) rfl ?_
  refine ⟨none, 0, rfl, Rd8.nil _, ?_⟩
  exact (((Chg.of_ext [] (W0E.trans g1)).setCell (Or.inr (by simp)) _).setCell (Or.inr (by simp)) _).setCell (Or.inr (by simp)) _ |>.ext

set_option maxHeartbeats 1000000 in
theorem rencode_bad2 (lo wd bit p : Int) (v : Value) (l : List Int) (w : World) (h : Rd8 w v l) (hc : chk wd l.length = 0) (h0 : bit ≠ 0) (h1 : bit ≠ 1) :
    Calls Try.prog 13 #[.agg #[.int .u32 lo, .int .u32 wd, v], .int .i64 bit, .int .i64 p] w fun x w' => EncPost w (encF lo wd l bit p) x w' := by
  have hE : encF lo wd l bit p = (1, 0, 0, []) := by unfold encF; rw [if_neg (by simp [hc]), if_pos ⟨h0, h1⟩]
  rw [hE]
  have hz0 : (bit != 0) = true := by simp [h0]
  have hz1 : (bit != 1) = true := by simp [h1]
  have Hk := hidden hc
  clear hc hE h0 h1
  obtain ⟨a, cap, rfl, h1, h2, h3⟩ := Rd.shape h
  have W0B : Blk ((w.alloc (.cells #[.int .u32 lo, .int .u32 wd, .slice a l.length cap] 25)).alloc (.cells #[.int .u32 0, .int .u32 0, .slice none 0 0] 25)) w.heap.size 25 [.int .u32 lo, .int .u32 wd, .slice a l.length cap] := (Blk.new w [.int .u32 lo, .int .u32 wd, .slice a l.length cap] _).alloc _
  have W0Z : Blk ((w.alloc (.cells #[.int .u32 lo, .int .u32 wd, .slice a l.length cap] 25)).alloc (.cells #[.int .u32 0, .int .u32 0, .slice none 0 0] 25)) (w.heap.size + 1) 25 [.int .u32 0, .int .u32 0, .slice none 0 0] := by
    have := Blk.new (w.alloc (.cells #[.int .u32 lo, .int .u32 wd, .slice a l.length cap] 25)) [.int .u32 0, .int .u32 0, .slice none 0 0] 25
    rw [World.size_alloc] at this
    exact this
  have W0R : Rd8 ((w.alloc (.cells #[.int .u32 lo, .int .u32 wd, .slice a l.length cap] 25)).alloc (.cells #[.int .u32 0, .int .u32 0, .slice none 0 0] 25)) (.slice a l.length cap) l := Rd.alloc (Rd.alloc h _) _
  have W0E : Ext w ((w.alloc (.cells #[.int .u32 lo, .int .u32 wd, .slice a l.length cap] 25)).alloc (.cells #[.int .u32 0, .int .u32 0, .slice none 0 0] 25)) := ((Ext.refl w).alloc _).alloc _
  go_enter Try.func13, Try.ntmps13
  go_wp2_with fail
  refine (rcheck_any _ _ _ l _ W0R).mono ?_
  rw [Hk.out]
  rintro e w1 ⟨rfl, g1⟩
  have W1B := W0B.ext g1
  have W1Z := W0Z.ext g1
  have pb0 := W1B.cell 0 _ rfl
  have pb1 := W1B.cell 1 _ rfl
  have pb2 := W1B.cell 2 _ rfl
  have pz0 := W1Z.cell 0 _ rfl
  have pz1 := W1Z.cell 1 _ rfl
  have pz2 := W1Z.cell 2 _ rfl
  have py0 := W1Z.frozen 0
  have py1 := W1Z.frozen 1
  have py2 := W1Z.frozen 2
  go_wp2_with fail
  refine bodyPost_ret (v := .tuple #[.agg #[.int .u32 0, .int .u32 0, .slice none 0 0], .int .i64 1]) (by simp [results, Try.results13, go_sem, pz0, pz1, pz2]) rfl ?_
  refine ⟨none, 0, rfl, Rd8.nil _, ?_⟩
  exact (((Chg.of_ext [] (W0E.trans g1)).setCell (Or.inr (by simp)) _).setCell (Or.inr (by simp)) _).setCell (Or.inr (by simp)) _ |>.ext

set_option maxHeartbeats 1000000 in
theorem rencode_bad3_0 (lo wd p : Int) (v : Value) (l : List Int) (w : World) (h : Rd8 w v l) (hc : chk wd l.length = 0) (hp : prb p = false) :
    Calls Try.prog 13 #[.agg #[.int .u32 lo, .int .u32 wd, v], .int .i64 0, .int .i64 p] w fun x w' => EncPost w (encF lo wd l 0 p) x w' := by
  have hE : encF lo wd l 0 p = (2, 0, 0, []) := by unfold encF; rw [if_neg (by simp [hc]), if_neg (by omega), if_pos hp]
  rw [hE]
  have hp2 : p < 1 ∨ (1 ≤ p ∧ 4095 < p) := by simp [prb] at hp; omega
  have Hk := hidden hc
  clear hc hE hp
  obtain ⟨a, cap, rfl, h1, h2, h3⟩ := Rd.shape h
  have W0B : Blk ((w.alloc (.cells #[.int .u32 lo, .int .u32 wd, .slice a l.length cap] 25)).alloc (.cells #[.int .u32 0, .int .u32 0, .slice none 0 0] 25)) w.heap.size 25 [.int .u32 lo, .int .u32 wd, .slice a l.length cap] := (Blk.new w [.int .u32 lo, .int .u32 wd, .slice a l.length cap] _).alloc _
  have W0Z : Blk ((w.alloc (.cells #[.int .u32 lo, .int .u32 wd, .slice a l.length cap] 25)).alloc (.cells #[.int .u32 0, .int .u32 0, .slice none 0 0] 25)) (w.heap.size + 1) 25 [.int .u32 0, .int .u32 0, .slice none 0 0] := by
    have := Blk.new (w.alloc (.cells #[.int .u32 lo, .int .u32 wd, .slice a l.length cap] 25)) [.int .u32 0, .int .u32 0, .slice none 0 0] 25
    rw [World.size_alloc] at this
    exact this
  have W0R : Rd8 ((w.alloc (.cells #[.int .u32 lo, .int .u32 wd, .slice a l.length cap] 25)).alloc (.cells #[.int .u32 0, .int .u32 0, .slice none 0 0] 25)) (.slice a l.length cap) l := Rd.alloc (Rd.alloc h _) _
  have W0E : Ext w ((w.alloc (.cells #[.int .u32 lo, .int .u32 wd, .slice a l.length cap] 25)).alloc (.cells #[.int .u32 0, .int .u32 0, .slice none 0 0] 25)) := ((Ext.refl w).alloc _).alloc _
  rcases hp2 with hp3 | ⟨hp3, hp4⟩
  · go_enter Try.func13, Try.ntmps13
    go_wp2_with fail
    refine (rcheck_any _ _ _ l _ W0R).mono ?_
    rw [Hk.out]
    rintro e w1 ⟨rfl, g1⟩
    have W1B := W0B.ext g1
    have W1Z := W0Z.ext g1
    have pb0 := W1B.cell 0 _ rfl
    have pb1 := W1B.cell 1 _ rfl
    have pb2 := W1B.cell 2 _ rfl
    have pz0 := W1Z.cell 0 _ rfl
    have pz1 := W1Z.cell 1 _ rfl
    have pz2 := W1Z.cell 2 _ rfl
    have py0 := W1Z.frozen 0
    have py1 := W1Z.frozen 1
    have py2 := W1Z.frozen 2
    go_wp2_with fail
    refine bodyPost_ret (v := .tuple #[.agg #[.int .u32 0, .int .u32 0, .slice none 0 0], .int .i64 2]) (by simp [results, Try.results13, go_sem, pz0, pz1, pz2]) rfl ?_
    refine ⟨none, 0, rfl, Rd8.nil _, ?_⟩
    exact (((Chg.of_ext [] (W0E.trans g1)).setCell (Or.inr (by simp)) _).setCell (Or.inr (by simp)) _).setCell (Or.inr (by simp)) _ |>.ext
  · go_enter Try.func13, Try.ntmps13
    go_wp2_with fail
    refine (rcheck_any _ _ _ l _ W0R).mono ?_
    rw [Hk.out]
    rintro e w1 ⟨rfl, g1⟩
    have W1B := W0B.ext g1
    have W1Z := W0Z.ext g1
    have pb0 := W1B.cell 0 _ rfl
    have pb1 := W1B.cell 1 _ rfl
    have pb2 := W1B.cell 2 _ rfl
    have pz0 := W1Z.cell 0 _ rfl
    have pz1 := W1Z.cell 1 _ rfl
    have pz2 := W1Z.cell 2 _ rfl
    have py0 := W1Z.frozen 0
    have py1 := W1Z.frozen 1
    have py2 := W1Z.frozen 2
    go_wp2_with fail
    refine bodyPost_ret (v := .tuple #[.agg #[.int .u32 0, .int .u32 0, .slice none 0 0], .int .i64 2]) (by simp [results, Try.results13, go_sem, pz0, pz1, pz2]) rfl ?_
    refine ⟨none, 0, rfl, Rd8.nil _, ?_⟩
    exact (((Chg.of_ext [] (W0E.trans g1)).setCell (Or.inr (by simp)) _).setCell (Or.inr (by simp)) _).setCell (Or.inr (by simp)) _ |>.ext

set_option maxRecDepth 100000 in
set_option maxHeartbeats 2000000 in
theorem rencode_ok_0 (lo wd p : Int) (v : Value) (l : List Int) (w : World) (h : Rd8 w v l) (hc : chk wd l.length = 0) (hp : prb p = true) (hb : Bytes l) (hl0 : 0 ≤ lo) (hl1 : lo ≤ 4294967295) (hw1 : wd ≤ 4294967295) :
    Calls Try.prog 13 #[.agg #[.int .u32 lo, .int .u32 wd, v], .int .i64 0, .int .i64 p] w fun x w' => EncPost w (encF lo wd l 0 p) x w' := by
  obtain ⟨c1, c2⟩ := chk_zero hc
  obtain ⟨c3, c4⟩ : 1 ≤ p ∧ p ≤ 4095 := by simp [prb] at hp; omega
  have hlen2 : (enc wd lo l 0 p).2.2.length ≤ 900000 := by have := enc_len wd lo l 0 p; omega
  obtain ⟨b0, b1, b2⟩ := bound_bd wd p (by omega) hw1 (by omega) c4
  have b3 : 1 ≤ wd / 4096 * p := by have : wd / 4096 * 1 ≤ wd / 4096 * p := Int.mul_le_mul_of_nonneg_left c3 (by omega)
                                    omega
  obtain ⟨bd, hbd⟩ : ∃ bd, wd / 4096 * p = bd := ⟨_, rfl⟩
  have hwp : IntKind.u32.wrap p = p := IntWalk.u32_in _ (by omega)
  have hE : Hid (encF lo wd l 0 p = if 65536 < (enc wd lo l 0 p).2.2.length then (5, 0, 0, []) else (0, (enc wd lo l 0 p).2.1, (enc wd lo l 0 p).1, (enc wd lo l 0 p).2.2)) := by unfold encF; rw [if_neg (by simp [hc]), if_neg (by omega), if_neg (by simp [hp])]; rfl
  have Hk := hidden hc
  clear hc hp
  obtain ⟨a, cap, rfl, h1, h2, h3⟩ := Rd.shape h
  have W0B : Blk ((w.alloc (.cells #[.int .u32 lo, .int .u32 wd, .slice a l.length cap] 25)).alloc (.cells #[.int .u32 0, .int .u32 0, .slice none 0 0] 25)) w.heap.size 25 [.int .u32 lo, .int .u32 wd, .slice a l.length cap] := (Blk.new w [.int .u32 lo, .int .u32 wd, .slice a l.length cap] _).alloc _
  have W0Z : Blk ((w.alloc (.cells #[.int .u32 lo, .int .u32 wd, .slice a l.length cap] 25)).alloc (.cells #[.int .u32 0, .int .u32 0, .slice none 0 0] 25)) (w.heap.size + 1) 25 [.int .u32 0, .int .u32 0, .slice none 0 0] := by
    have := Blk.new (w.alloc (.cells #[.int .u32 lo, .int .u32 wd, .slice a l.length cap] 25)) [.int .u32 0, .int .u32 0, .slice none 0 0] 25
    rw [World.size_alloc] at this
    exact this
  have W0R : Rd8 ((w.alloc (.cells #[.int .u32 lo, .int .u32 wd, .slice a l.length cap] 25)).alloc (.cells #[.int .u32 0, .int .u32 0, .slice none 0 0] 25)) (.slice a l.length cap) l := Rd.alloc (Rd.alloc h _) _
  have W0E : Ext w ((w.alloc (.cells #[.int .u32 lo, .int .u32 wd, .slice a l.length cap] 25)).alloc (.cells #[.int .u32 0, .int .u32 0, .slice none 0 0] 25)) := ((Ext.refl w).alloc _).alloc _
  go_enter Try.func13, Try.ntmps13
  go_wp2_with fail
  refine (rcheck_any _ _ _ l _ W0R).mono ?_
  rw [Hk.out]
  rintro e w1 ⟨rfl, g1⟩
  have W1B := W0B.ext g1
  have W1Z := W0Z.ext g1
  have pb0 := W1B.cell 0 _ rfl
  have pb1 := W1B.cell 1 _ rfl
  have pb2 := W1B.cell 2 _ rfl
  have pz0 := W1Z.cell 0 _ rfl
  have pz1 := W1Z.cell 1 _ rfl
  have pz2 := W1Z.cell 2 _ rfl
  have py0 := W1Z.frozen 0
  have py1 := W1Z.frozen 1
  have py2 := W1Z.frozen 2
  have H1R := W0R.ext g1
  have hs1 := g1.size
  have hz1 := W0Z.lt
  go_upto_region 9 with fail
  go_cut [10] (fun s wx => ∃ q v', s = .pointer (some ⟨q, 0, none⟩) ∧ Blk wx q 25 [.int .u32 lo, .int .u32 (wd / 4096 * p), v'] ∧ Own8 wx w1.heap.size v' l ∧ v'.ownBlock ≠ some q ∧ w1.heap.size ≤ q ∧ Ext w1 wx)
  case first =>
    have n0 := World.new_ne w1 _ pb0
    have n2 := World.new_ne w1 _ pb2
    go_region_held3 (fun w' => w'.cell? ⟨w.heap.size, 0, none⟩ = some (.int .u32 lo) ∧ w'.cell? ⟨w.heap.size, 2, none⟩ = some (.slice a l.length cap)) (go_keep)
      (first | (go_at_call 38; refine (rbytes_any _ l (by omega) _ (by first | exact Rd.drew H1R | exact Rd.drew (Rd.alloc H1R _))).mono ?_; rintro e w2 ⟨v2, rfl, hO2, g2⟩; obtain ⟨a2, cc2, rfl, s1, s2, s3⟩ := Rd.shape hO2.rd; have k0 : w2.cell? ⟨w.heap.size, 0, none⟩ = some (.int .u32 lo) := g2.cell (by first | exact pb0 | exact (W1B.alloc _).drew.cell 0 _ rfl); have k2 : w2.cell? ⟨w.heap.size, 2, none⟩ = some (.slice a l.length cap) := g2.cell (by first | exact pb2 | exact (W1B.alloc _).drew.cell 2 _ rfl); have gx : Ext w1 w2 := (by first | exact g2.past_drew.past | exact g2.past_drew); have hO3 : Own8 w2 w1.heap.size (.slice a2 l.length cc2) l := own_base hO2 (by simp); have hlt : w1.heap.size ≤ w2.heap.size := gx.size; first | (have kb := (Blk.new w1 [.int .u32 0, .int .u32 0, .slice none 0 0] 25).drew.ext g2; have kb0 := kb.cell 0 _ rfl; have kb1 := kb.cell 1 _ rfl; have kb2 := kb.cell 2 _ rfl; have kf0 := kb.frozen 0; have kf1 := kb.frozen 1; have kf2 := kb.frozen 2; have hno : (Value.slice a2 l.length cc2).ownBlock ≠ some w1.heap.size := (fun hx => by have := (own_lt hO2 hx).1; simp at this; omega)) | skip))
    all_goals
      go_wp2_with fail
      go_meet
      rw [hbd]
      first
        | exact ⟨w1.heap.size, .slice a2 l.length cc2, rfl, ((kb.set 0 _).set 1 _).set 2 _, ownsRow_setCell_other (a := ⟨w1.heap.size, 2, none⟩) (ownsRow_setCell_other (a := ⟨w1.heap.size, 1, none⟩) (ownsRow_setCell_other (a := ⟨w1.heap.size, 0, none⟩) hO3 hno _) hno _) hno _, hno, Nat.le_refl _, ((gx.setCell (Nat.le_refl _) _).setCell (Nat.le_refl _) _).setCell (Nat.le_refl _) _⟩
        | exact ⟨w2.heap.size, .slice a2 l.length cc2, rfl, Blk.new w2 [.int .u32 lo, .int .u32 bd, .slice a2 l.length cc2] _, World.ownsRow.alloc hO3 _, fun hx => by (have := (own_lt hO3 hx).2; omega), hlt, gx.alloc _⟩
  case rest =>
    obtain ⟨q, v3, rfl, hB3, hO3, hq3, hqs, g3⟩ := hcut
    rw [hbd] at hB3
    have W3B := W1B.ext g3
    have hs3 := g3.size
    have t0 := hB3.cell 0 _ rfl
    have t1 := hB3.cell 1 _ rfl
    have t2 := hB3.cell 2 _ rfl
    have u0 := hB3.frozen 0
    have u1 := hB3.frozen 1
    have u2 := hB3.frozen 2
    have v0 := W3B.cell 0 _ rfl
    have v1 := W3B.cell 1 _ rfl
    have hqn : q ≠ w.heap.size := by simp at hs1; omega
    have hqz : q ≠ w.heap.size + 1 := by simp at hs1; omega
    have hx1 : encWd wd p 0 = wd - bd := by unfold encWd; rw [if_neg (by omega), hbd]
    have hx2 : encLo wd lo p 0 = (lo + bd) % 4294967296 := by unfold encLo; rw [if_neg (by omega), hbd]
    have hx3 : encL wd lo p 0 l = if 4294967296 ≤ lo + bd then carryL l else l := by unfold encL; rw [if_neg (by omega), hbd]
    have X1 := hidden hx1
    have X2 := hidden hx2
    have X3 := hidden hx3
    have hwl := lo_wrap lo bd hl0 hl1 (by omega) (by omega)
    have hy2 : IntKind.u32.wrap (wd - bd) = wd - bd := IntWalk.u32_in _ (by omega)
    have hy1 : IntKind.u32.wrap (lo + bd) = (lo + bd) % 4294967296 := IntKind.wrap_u32 _
    clear hx1 hx2 hx3
    go_upto_if 45 with fail
    go_cut [] (fun wx => ∃ v4, Blk wx q 25 [.int .u32 (encLo wd lo p 0), .int .u32 (encWd wd p 0), v4] ∧ Own8 wx w1.heap.size v4 (encL wd lo p 0 l) ∧ Bytes (encL wd lo p 0 l) ∧ (encL wd lo p 0 l).length ≤ 65536 ∧ v4.ownBlock ≠ some q ∧ Ext w1 wx)
    case first =>
      have hO3a := ownsRow_setCell_other (a := ⟨q, 1, none⟩) (ownsRow_setCell_other (a := ⟨q, 0, none⟩) hO3 hq3 (.int .u32 ((lo + bd) % 4294967296))) hq3 (.int .u32 (wd - bd))
      have hB3a := (hB3.set 0 (.int .u32 ((lo + bd) % 4294967296))).set 1 (.int .u32 (wd - bd))
      have hE3a := (g3.setCell (p := ⟨q, 0, none⟩) hqs (.int .u32 ((lo + bd) % 4294967296))).setCell (p := ⟨q, 1, none⟩) hqs (.int .u32 (wd - bd))
      by_cases hge : 4294967296 ≤ lo + bd
      · have hlt : (lo + bd) % 4294967296 < lo := hwl.2 hge
        have HG := hidden hge
        clear hwl hge
        go_wp2_with fail
        go_region
        go_wp2_with fail
        refine (rcarry_any v3 l hb (by omega) _ (Rd.drew (Own8.rd hO3a))).mono ?_
        rintro e w5 ⟨v5, rfl, hO5, g5⟩
        obtain ⟨a7, c7, rfl, -, -, -⟩ := Rd.shape hO5.rd
        have hB5 := hB3a.drew.ext g5
        have d2 := hB5.cell 2 _ rfl
        have e2 := hB5.frozen 2
        have hne5 : (Value.slice a7 (carryL l).length c7).ownBlock ≠ some q := fun hx => by have := (own_lt hO5 hx).1; simp at this; have := hB3.lt; omega
        go_wp2_with fail
        go_meet
        rw [X1.out, X2.out, X3.out, if_pos HG.out]
        refine ⟨_, hB5.set 2 _, ownsRow_setCell_other (a := ⟨q, 2, none⟩) (own_base hO5 (by simp; omega)) hne5 _, carryL_bytes hb, by rw [carryL_len]; exact c2, hne5, (hE3a.drew.trans g5).setCell hqs _⟩
      · have hlt : ¬ (lo + bd) % 4294967296 < lo := fun h => hge (hwl.1 h)
        have HG := hidden hge
        clear hwl hge
        go_wp2_with fail
        go_region
        go_wp2_with fail
        go_meet
        rw [X1.out, X2.out, X3.out, if_neg (by have := HG.out; omega)]
        exact ⟨v3, hB3a.drew, own_ext hO3a (Ext.refl _).drew, hb, c2, hq3, hE3a.drew⟩
    case rest =>
      obtain ⟨v4, hB4, hO4, hb4, hl4, hq4, g4⟩ := hcut
      have hwb := encWd_bd wd p 0 c1 hw1 c3 c4
      have hlob : 0 ≤ encLo wd lo p 0 ∧ encLo wd lo p 0 ≤ 4294967295 := by unfold encLo; split <;> omega
      go_wp2_with fail
      go_loopg [] 3 (fun k wr => ∃ lo' wd' v' l', Blk wr q 25 [.int .u32 lo', .int .u32 wd', v'] ∧ Own8 wr w1.heap.size v' l' ∧ Bytes l' ∧ l'.length + k ≤ 900003 ∧ v'.ownBlock ≠ some q ∧ Ext w1 wr ∧
        0 < wd' ∧ wd' ≤ 4294967295 ∧ 0 ≤ lo' ∧ lo' ≤ 4294967295 ∧ Hid (shN k wd' lo' l' = enc wd lo l 0 p ∧ 16777216 ≤ wd' * 256 ^ k))
      case atStart => exact ⟨_, _, v4, _, hB4, hO4, hb4, by omega, hq4, g4, by omega, hwb.2, hlob.1, hlob.2, ⟨rfl, by omega⟩⟩
      case round =>
        obtain ⟨lo', wd', v', l', hBr, hOr, hbr, hlr, hpr, gr, a0, a1, a2, a3, hq⟩ := hrel
        have r0 := hBr.cell 0 _ rfl
        have r1 := hBr.cell 1 _ rfl
        have r2 := hBr.cell 2 _ rfl
        have f0 := hBr.frozen 0
        have f1 := hBr.frozen 1
        have f2 := hBr.frozen 2
        have hql := hBr.lt
        have hsr := gr.size
        by_cases hs : wd' < 16777216
        · obtain ⟨k, rfl⟩ : ∃ k, gk = k + 1 := by
            cases gk with
            | zero => have := hq.out.2; simp at this; omega
            | succ k => exact ⟨k, rfl⟩
          obtain ⟨i0, hi, hz0, hz1, hz2⟩ := info_parts u8info
          have hO5 := World.ownsRow.alloc hOr (.cells #[.int .u8 (lo' / 16777216)] 5)
          go_wp2_with (at_builtin; refine wpList_append_lies _ rfl _ _ 23 rfl w1.heap.size 5 i0 (.int .u8 0) 1 1 Try.underlying23 hi hz0 hz1 hz2 rfl (by decide) v' l'.length (bs l') rfl hO5 ⟨wr.heap.size, 0, none⟩ 1 1 [.int .u8 (lo' / 16777216)] rfl rfl (World.news_of_block (cs := #[.int .u8 (lo' / 16777216)]) (t := 5) (fr := (0, 0)) (heap_alloc_new wr _)) (by simp [Value.oneCell']) (by omega) (by unfold maxLen; omega) (by omega) (by simp; omega) (wr.heap.size + 1) (by simp) ?_; intro gg cp w5 hown1 hgrow hat hlt; have q1 := (hBr.alloc (.cells #[.int .u8 (lo' / 16777216)] 5)).grown hgrow hpr; have q2 := q1.cell 2 _ rfl; have q3 := q1.frozen 2; have q4 := q1.cell 0 _ rfl; have q5 := q1.frozen 0; have q6 := q1.cell 1 _ rfl; have q7 := q1.frozen 1)
          have hgp : gg ≠ q := by
            rcases hat with h | h
            · rw [h] at hpr; exact fun e => hpr (by rw [e])
            · omega
          go_roundg k
          case measure => omega
          case rel =>
            refine ⟨lo' * 256 % 4294967296, wd' * 256, .slice (some ⟨gg, 0, none⟩) (l'.length + 1) cp, l' ++ [lo' / 16777216], ((q1.set 2 _).set 0 _).set 1 _, ?_, hbr.snoc (by omega) (by omega), by simp; omega, by simpa [Value.ownBlock] using hgp, ?_, by omega, by omega, by omega, by omega, ?_⟩
            · have hne : (Value.slice (some ⟨gg, 0, none⟩) (l'.length + 1) cp).ownBlock ≠ some q := by simpa [Value.ownBlock] using hgp
              unfold Own8
              rw [bs_app, List.length_append]
              exact ownsRow_setCell_other (a := ⟨q, 1, none⟩) (ownsRow_setCell_other (a := ⟨q, 0, none⟩) (ownsRow_setCell_other (a := ⟨q, 2, none⟩) hown1 hne _) hne _) hne _
            · have c5 : Chg [] w1 w5 := ((Chg.of_ext [] gr).alloc _).grown hgrow (fun k hk => Or.inr (own_lt hOr hk).1)
              exact (((c5.setCell (p := ⟨q, 2, none⟩) (Or.inr hqs) _).setCell (p := ⟨q, 0, none⟩) (Or.inr hqs) _).setCell (p := ⟨q, 1, none⟩) (Or.inr hqs) _).ext
            · have h := hq.out
              rw [shN_small _ _ _ _ hs, Int.emod_eq_of_lt (by omega) (by omega)] at h
              refine ⟨h.1, ?_⟩
              have h2 := h.2
              rw [Int.pow_succ, Int.mul_comm (256 ^ k), ← Int.mul_assoc] at h2
              exact h2
        · have he := hq.out.1
          rw [shN_stop _ _ _ _ (by omega)] at he
          have He := hidden he
          clear he
          obtain ⟨a6, c6, rfl, s6, s7, s8⟩ := Rd.shape hOr.rd
          have WZ := W1Z.ext gr
          have z0 := WZ.cell 0 _ rfl
          have z1 := WZ.cell 1 _ rfl
          have z2 := WZ.cell 2 _ rfl
          have y0 := WZ.frozen 0
          have y1 := WZ.frozen 1
          have y2 := WZ.frozen 2
          have gW : Chg [] w wr := Chg.of_ext [] ((W0E.trans g1).trans gr)
          by_cases hlen : 65536 < l'.length
          · have hlt : (65536 : Int) < (l'.length : Int) := by omega
            go_wp2_with fail
            refine bodyPost_ret (v := .tuple #[.agg #[.int .u32 0, .int .u32 0, .slice none 0 0], .int .i64 5]) (by simp [results, Try.results13, go_sem, z0, z1, z2]) rfl ?_
            rw [hE.out, ← He.out, if_pos hlen]
            refine ⟨none, 0, rfl, Rd8.nil _, ?_⟩
            exact ((gW.setCell (Or.inr (by simp)) _).setCell (Or.inr (by simp)) _).setCell (Or.inr (by simp)) _ |>.ext
          · have hlt : ¬ (65536 : Int) < (l'.length : Int) := by omega
            go_wp2_with fail
            refine bodyPost_ret (v := .tuple #[.agg #[.int .u32 lo', .int .u32 wd', .slice a6 l'.length c6], .int .i64 0]) (by simp [results, Try.results13, go_sem, z0, z1, z2]) rfl ?_
            rw [hE.out, ← He.out, if_neg hlen]
            have hn6 : (Value.slice a6 l'.length c6).ownBlock ≠ some (w.heap.size + 1) := fun hx => by have := (own_lt hOr hx).1; simp at hs1; omega
            refine ⟨a6, c6, rfl, Own8.rd (ownsRow_setCell_other (a := ⟨w.heap.size + 1, 2, none⟩) (ownsRow_setCell_other (a := ⟨w.heap.size + 1, 1, none⟩) (ownsRow_setCell_other (a := ⟨w.heap.size + 1, 0, none⟩) hOr hn6 _) hn6 _) hn6 _), ?_⟩
            exact ((gW.setCell (Or.inr (by simp)) _).setCell (Or.inr (by simp)) _).setCell (Or.inr (by simp)) _ |>.ext

end Go.Proofs.Ytnodnfmgklkjeaa
