/- The decoder's exported functions. -/
import Derived.Test.YtnodnfmgklkjeaaCg
namespace Go.Proofs.Ytnodnfmgklkjeaa
open Go.RowKit
set_option linter.unusedVariables false
attribute [local go_sem ↓] Go.wp_at_zero Go.wp_at_succ

theorem checkd_any (wd c : Int) (v : Value) (l : List Int) (w : World) (h : Rd8 w v l) :
    Calls Try.prog 24 #[.agg #[.int .u32 wd, .int .u32 c, v]] w fun x w' => x = .returned (.int .i64 (chk wd l.length)) ∧ Ext w w' := by
  obtain ⟨a, cap, rfl, h1, h2, h3⟩ := Rd.shape h
  clear h
  by_cases c1 : wd < 16777216
  · go_enter Try.func24, Try.ntmps24
    go_wp2_with fail
    go_ret
    exact ⟨ret_int (by unfold chk; rw [if_pos c1]), (Ext.refl _).alloc _⟩
  · by_cases c2 : 65536 < l.length
    · have c2' : (65536 : Int) < (l.length : Int) := by omega
      go_enter Try.func24, Try.ntmps24
      go_wp2_with fail
      go_ret
      exact ⟨ret_int (by unfold chk; rw [if_neg (by omega), if_pos c2]), (Ext.refl _).alloc _⟩
    · have c2' : ¬ (65536 : Int) < (l.length : Int) := by omega
      go_enter Try.func24, Try.ntmps24
      go_wp2_with fail
      go_ret
      exact ⟨ret_int (by unfold chk; rw [if_neg (by omega), if_neg c2]), (Ext.refl _).alloc _⟩

/-- The result of Decode: the error, the bit, width, code, bytes. -/
def decF (wd c : Int) (l : List Int) (p : Int) : Int × Int × Int × Int × List Int :=
  if chk wd l.length ≠ 0 then (chk wd l.length, 0, 0, 0, []) else if prb p = false then (2, 0, 0, 0, [])
  else (0, decBit wd c p, (dec wd c l p).1, (dec wd c l p).2.1, (dec wd c l p).2.2)
def DecPost (w : World) (r : Int × Int × Int × Int × List Int) (x : Ending) (w' : World) : Prop :=
  ∃ a k, x = .returned (.tuple #[.int .i64 r.2.1, .agg #[.int .u32 r.2.2.1, .int .u32 r.2.2.2.1, .slice a r.2.2.2.2.length k], .int .i64 r.1]) ∧ Rd8 w' (.slice a r.2.2.2.2.length k) r.2.2.2.2 ∧ Ext w w'
theorem deN_len : ∀ (k : Nat) (wd c : Int) (l : List Int), (deN k wd c l).2.2.length ≤ l.length := by
  intro k
  induction k with
  | zero => intro wd c l; exact Nat.le_refl _
  | succ k ih =>
    intro wd c l
    unfold deN
    split
    · have := ih (wd * 256 % 4294967296) (shC c l) l.tail
      simp only [List.length_tail] at this
      omega
    · exact Nat.le_refl _

set_option maxHeartbeats 1000000 in
theorem decode_bad1 (wd c p : Int) (v : Value) (l : List Int) (w : World) (h : Rd8 w v l) (hc : chk wd l.length ≠ 0) :
    Calls Try.prog 22 #[.agg #[.int .u32 wd, .int .u32 c, v], .int .i64 p] w fun x w' => DecPost w (decF wd c l p) x w' := by
  have hE : decF wd c l p = (chk wd l.length, 0, 0, 0, []) := by unfold decF; rw [if_pos hc]
  rw [hE]
  obtain ⟨k, hk⟩ : ∃ k, chk wd l.length = k := ⟨_, rfl⟩
  have hz : (k != 0) = true := by rw [← hk]; simp [hc]
  rw [hk]
  have Hk := hidden hk
  clear hc hE hk
  obtain ⟨a, cap, rfl, h1, h2, h3⟩ := Rd.shape h
  have W0B : Blk ((w.alloc (.cells #[.int .u32 wd, .int .u32 c, .slice a l.length cap] 44)).alloc (.cells #[.int .u32 0, .int .u32 0, .slice none 0 0] 44)) w.heap.size 44 [.int .u32 wd, .int .u32 c, .slice a l.length cap] := (Blk.new w [.int .u32 wd, .int .u32 c, .slice a l.length cap] _).alloc _
  have W0Z : Blk ((w.alloc (.cells #[.int .u32 wd, .int .u32 c, .slice a l.length cap] 44)).alloc (.cells #[.int .u32 0, .int .u32 0, .slice none 0 0] 44)) (w.heap.size + 1) 44 [.int .u32 0, .int .u32 0, .slice none 0 0] := by
    have := Blk.new (w.alloc (.cells #[.int .u32 wd, .int .u32 c, .slice a l.length cap] 44)) [.int .u32 0, .int .u32 0, .slice none 0 0] 44
    rw [World.size_alloc] at this
    exact this
  have W0R : Rd8 ((w.alloc (.cells #[.int .u32 wd, .int .u32 c, .slice a l.length cap] 44)).alloc (.cells #[.int .u32 0, .int .u32 0, .slice none 0 0] 44)) (.slice a l.length cap) l := Rd.alloc (Rd.alloc h _) _
  have W0E : Ext w ((w.alloc (.cells #[.int .u32 wd, .int .u32 c, .slice a l.length cap] 44)).alloc (.cells #[.int .u32 0, .int .u32 0, .slice none 0 0] 44)) := ((Ext.refl w).alloc _).alloc _
  go_enter Try.func22, Try.ntmps22
  go_wp2_with fail
  refine (checkd_any _ _ _ l _ W0R).mono ?_
  rw [Hk.out]
  rintro e w1 ⟨rfl, g1⟩
  have W1B := W0B.ext g1
  have W1Z := W0Z.ext g1
  have pb0 := W1B.cell 0 _ rfl
  have pb1 := W1B.cell 1 _ rfl
  have pb2 := W1B.cell 2 _ rfl
  have pz0 := W1Z.cell 0 _ rfl
  have pz1 := W1Z.cell 1 _ rfl
  have pz2 := W1Z.cell 2 _ rfl
  have py0 := W1Z.frozen 0
  have py1 := W1Z.frozen 1
  have py2 := W1Z.frozen 2
  go_wp2_with fail
  refine bodyPost_ret (v := .tuple #[.int .i64 0, .agg #[.int .u32 0, .int .u32 0, .slice none 0 0], .int .i64 k]) (by simp [results, Try.results22, go_sem, pz0, pz1, pz2]) rfl ?_
  refine ⟨none, 0, rfl, Rd8.nil _, ?_⟩
  exact (((Chg.of_ext [] (W0E.trans g1)).setCell (Or.inr (by simp)) _).setCell (Or.inr (by simp)) _).setCell (Or.inr (by simp)) _ |>.ext

set_option maxHeartbeats 1000000 in
theorem decode_bad2 (wd c p : Int) (v : Value) (l : List Int) (w : World) (h : Rd8 w v l) (hc : chk wd l.length = 0) (hp : prb p = false) :
    Calls Try.prog 22 #[.agg #[.int .u32 wd, .int .u32 c, v], .int .i64 p] w fun x w' => DecPost w (decF wd c l p) x w' := by
  have hE : decF wd c l p = (2, 0, 0, 0, []) := by unfold decF; rw [if_neg (by simp [hc]), if_pos hp]
  rw [hE]
  have Hk := hidden hc
  have Hp := hidden hp
  clear hc hE hp
  obtain ⟨a, cap, rfl, h1, h2, h3⟩ := Rd.shape h
  have W0B : Blk ((w.alloc (.cells #[.int .u32 wd, .int .u32 c, .slice a l.length cap] 44)).alloc (.cells #[.int .u32 0, .int .u32 0, .slice none 0 0] 44)) w.heap.size 44 [.int .u32 wd, .int .u32 c, .slice a l.length cap] := (Blk.new w [.int .u32 wd, .int .u32 c, .slice a l.length cap] _).alloc _
  have W0Z : Blk ((w.alloc (.cells #[.int .u32 wd, .int .u32 c, .slice a l.length cap] 44)).alloc (.cells #[.int .u32 0, .int .u32 0, .slice none 0 0] 44)) (w.heap.size + 1) 44 [.int .u32 0, .int .u32 0, .slice none 0 0] := by
    have := Blk.new (w.alloc (.cells #[.int .u32 wd, .int .u32 c, .slice a l.length cap] 44)) [.int .u32 0, .int .u32 0, .slice none 0 0] 44
    rw [World.size_alloc] at this
    exact this
  have W0R : Rd8 ((w.alloc (.cells #[.int .u32 wd, .int .u32 c, .slice a l.length cap] 44)).alloc (.cells #[.int .u32 0, .int .u32 0, .slice none 0 0] 44)) (.slice a l.length cap) l := Rd.alloc (Rd.alloc h _) _
  have W0E : Ext w ((w.alloc (.cells #[.int .u32 wd, .int .u32 c, .slice a l.length cap] 44)).alloc (.cells #[.int .u32 0, .int .u32 0, .slice none 0 0] 44)) := ((Ext.refl w).alloc _).alloc _
  go_enter Try.func22, Try.ntmps22
  go_wp2_with fail
  refine (checkd_any _ _ _ l _ W0R).mono ?_
  rw [Hk.out]
  rintro e w1 ⟨rfl, g1⟩
  have W1B := W0B.ext g1
  have W1Z := W0Z.ext g1
  have pb0 := W1B.cell 0 _ rfl
  have pb1 := W1B.cell 1 _ rfl
  have pb2 := W1B.cell 2 _ rfl
  have pz0 := W1Z.cell 0 _ rfl
  have pz1 := W1Z.cell 1 _ rfl
  have pz2 := W1Z.cell 2 _ rfl
  have py0 := W1Z.frozen 0
  have py1 := W1Z.frozen 1
  have py2 := W1Z.frozen 2
  go_wp2_with fail
  refine (probable_any _ _).mono ?_
  rw [Hp.out]
  rintro e w2 ⟨rfl, rfl⟩
  go_wp2_with fail
  refine bodyPost_ret (v := .tuple #[.int .i64 0, .agg #[.int .u32 0, .int .u32 0, .slice none 0 0], .int .i64 2]) (by simp [results, Try.results22, go_sem, pz0, pz1, pz2]) rfl ?_
  refine ⟨none, 0, rfl, Rd8.nil _, ?_⟩
  exact (((Chg.of_ext [] (W0E.trans g1)).setCell (Or.inr (by simp)) _).setCell (Or.inr (by simp)) _).setCell (Or.inr (by simp)) _ |>.ext

set_option maxHeartbeats 1000000 in
theorem decode_good (wd c p : Int) (v : Value) (l : List Int) (w : World) (h : Rd8 w v l) (hc : chk wd l.length = 0) (hp : prb p = true) (hb : Bytes l) (hl0 : 0 ≤ c) (hl1 : c ≤ 4294967295) (hw1 : wd ≤ 4294967295) :
    Calls Try.prog 22 #[.agg #[.int .u32 wd, .int .u32 c, v], .int .i64 p] w fun x w' => DecPost w (decF wd c l p) x w' := by
  obtain ⟨c1, c2⟩ := chk_zero hc
  obtain ⟨c3, c4⟩ : 1 ≤ p ∧ p ≤ 4095 := by simp [prb] at hp; omega
  have hlen2 : (dec wd c l p).2.2.length ≤ 900000 := by have := deN_len 3 (encWd wd p (decBit wd c p)) (decC wd c p) l; unfold dec; omega
  obtain ⟨R, hR⟩ : ∃ R, dec wd c l p = R := ⟨_, rfl⟩
  have hE : decF wd c l p = (0, decBit wd c p, R.1, R.2.1, R.2.2) := by unfold decF; rw [if_neg (by simp [hc]), if_neg (by simp [hp]), hR]
  rw [hE]
  rw [hR] at hlen2
  have Hk := hidden hc
  have Hp := hidden hp
  have HR := hidden hR
  clear hc hE hp hR
  obtain ⟨a, cap, rfl, h1, h2, h3⟩ := Rd.shape h
  have W0B : Blk ((w.alloc (.cells #[.int .u32 wd, .int .u32 c, .slice a l.length cap] 44)).alloc (.cells #[.int .u32 0, .int .u32 0, .slice none 0 0] 44)) w.heap.size 44 [.int .u32 wd, .int .u32 c, .slice a l.length cap] := (Blk.new w [.int .u32 wd, .int .u32 c, .slice a l.length cap] _).alloc _
  have W0Z : Blk ((w.alloc (.cells #[.int .u32 wd, .int .u32 c, .slice a l.length cap] 44)).alloc (.cells #[.int .u32 0, .int .u32 0, .slice none 0 0] 44)) (w.heap.size + 1) 44 [.int .u32 0, .int .u32 0, .slice none 0 0] := by
    have := Blk.new (w.alloc (.cells #[.int .u32 wd, .int .u32 c, .slice a l.length cap] 44)) [.int .u32 0, .int .u32 0, .slice none 0 0] 44
    rw [World.size_alloc] at this
    exact this
  have W0R : Rd8 ((w.alloc (.cells #[.int .u32 wd, .int .u32 c, .slice a l.length cap] 44)).alloc (.cells #[.int .u32 0, .int .u32 0, .slice none 0 0] 44)) (.slice a l.length cap) l := Rd.alloc (Rd.alloc h _) _
  have W0E : Ext w ((w.alloc (.cells #[.int .u32 wd, .int .u32 c, .slice a l.length cap] 44)).alloc (.cells #[.int .u32 0, .int .u32 0, .slice none 0 0] 44)) := ((Ext.refl w).alloc _).alloc _
  go_enter Try.func22, Try.ntmps22
  go_wp2_with fail
  refine (checkd_any _ _ _ l _ W0R).mono ?_
  rw [Hk.out]
  rintro e w1 ⟨rfl, g1⟩
  have W1B := W0B.ext g1
  have W1Z := W0Z.ext g1
  have pb0 := W1B.cell 0 _ rfl
  have pb1 := W1B.cell 1 _ rfl
  have pb2 := W1B.cell 2 _ rfl
  have pz0 := W1Z.cell 0 _ rfl
  have pz1 := W1Z.cell 1 _ rfl
  have pz2 := W1Z.cell 2 _ rfl
  have py0 := W1Z.frozen 0
  have py1 := W1Z.frozen 1
  have py2 := W1Z.frozen 2
  go_wp2_with fail
  refine (probable_any _ _).mono ?_
  rw [Hp.out]
  rintro e w2 ⟨rfl, rfl⟩
  go_upto_region 7 with fail
  have W2N := Blk.new w1 [.int .u32 wd, .int .u32 c, .slice a l.length cap] 83
  have W2R := Rd.alloc (W0R.ext g1) (.cells #[.int .u32 wd, .int .u32 c, .slice a l.length cap] 83)
  have W2Z := W1Z.alloc (.cells #[.int .u32 wd, .int .u32 c, .slice a l.length cap] 83)
  have gE2 : Ext w (w1.alloc (.cells #[.int .u32 wd, .int .u32 c, .slice a l.length cap] 83)) := (W0E.trans g1).alloc _
  have hs1 := g1.size
  have hz1 := W0Z.lt
  have hnb := Rd.off (W0R.ext g1) (Nat.le_refl w1.heap.size)
  go_wp2_with fail
  refine (decode_any w1.heap.size wd c p _ l hb hnb c1 hw1 hl0 hl1 c3 c4 _ W2N W2R).mono ?_
  rw [HR.out]
  rintro e w4 ⟨rfl, v4, hB4, hR4, hq4, hC4⟩
  have gC : Chg [] w w4 := (Chg.of_ext [] gE2).trans hC4 (by intro x hx; simp at hx; subst hx; exact Or.inr (by simp at hs1; omega))
  have W4Z := W2Z.chg hC4 (by simp; simp at hs1; omega)
  go_wp2_with fail
  refine (state_any w1.heap.size R.1 R.2.1 v4 R.2.2 hlen2 _ hB4 hR4).mono ?_
  rintro e w5 ⟨a5, k5, rfl, hR5, hn5, g5⟩
  have W5Z := W4Z.ext g5
  have gC5 := gC.trans (Chg.of_ext [] g5) (by simp)
  have z0 := W5Z.cell 0 _ rfl
  have z1 := W5Z.cell 1 _ rfl
  have z2 := W5Z.cell 2 _ rfl
  have y0 := W5Z.frozen 0
  have y1 := W5Z.frozen 1
  have y2 := W5Z.frozen 2
  go_wp2_with fail
  refine bodyPost_ret (v := .tuple #[.int .i64 (decBit wd c p), .agg #[.int .u32 R.1, .int .u32 R.2.1, .slice a5 R.2.2.length k5], .int .i64 0]) (by simp [results, Try.results22, go_sem, z0, z1, z2]) rfl ?_
  have hC := ((gC5.setCell (p := ⟨w.heap.size + 1, 0, none⟩) (Or.inr (by simp)) (.int .u32 R.1)).setCell (p := ⟨w.heap.size + 1, 1, none⟩) (Or.inr (by simp)) (.int .u32 R.2.1)).setCell (p := ⟨w.heap.size + 1, 2, none⟩) (Or.inr (by simp)) (.slice a5 R.2.2.length k5)
  have hD := (((Chg.refl [w.heap.size + 1] w5).setCell (p := ⟨w.heap.size + 1, 0, none⟩) (Or.inl (by simp)) (.int .u32 R.1)).setCell (p := ⟨w.heap.size + 1, 1, none⟩) (Or.inl (by simp)) (.int .u32 R.2.1)).setCell (p := ⟨w.heap.size + 1, 2, none⟩) (Or.inl (by simp)) (.slice a5 R.2.2.length k5)
  exact ⟨a5, k5, rfl, Rd.chg hR5 hD (by intro x hx _; simp at hx; subst hx; exact hn5 _ W4Z.lt), hC.ext⟩

theorem Decode_any (wd c p : Int) (v : Value) (l : List Int) (hb : Bytes l) (hl0 : 0 ≤ c) (hl1 : c ≤ 4294967295) (hw1 : wd ≤ 4294967295) (w : World) (h : Rd8 w v l) :
    Calls Try.prog 22 #[.agg #[.int .u32 wd, .int .u32 c, v], .int .i64 p] w fun x w' => DecPost w (decF wd c l p) x w' := by
  by_cases hc : chk wd l.length = 0
  · cases hp : prb p
    · exact decode_bad2 wd c p v l w h hc hp
    · exact decode_good wd c p v l w h hc hp hb hl0 hl1 hw1
  · exact decode_bad1 wd c p v l w h hc

/-- The decoder of bytes. -/
def opN : Nat → Int → List Int → Int × List Int
  | 0, c, l => (c, l)
  | k + 1, c, l => opN k (shC c l) l.tail
def DPost (w : World) (r : Int × Int × List Int) (x : Ending) (w' : World) : Prop :=
  ∃ a k, x = .returned (.agg #[.int .u32 r.1, .int .u32 r.2.1, .slice a r.2.2.length k]) ∧ Rd8 w' (.slice a r.2.2.length k) r.2.2 ∧ Ext w w'
def opF (l : List Int) : Int × Int × List Int := (4294967295, (opN 4 0 l).1, (opN 4 0 l).2)

set_option maxHeartbeats 1000000 in
theorem Open_any (v : Value) (l : List Int) (hb : Bytes l) (hl : l.length ≤ 800000) (w : World) (h : Rd8 w v l) :
    Calls Try.prog 27 #[v] w fun x w' => DPost w (opF l) x w' := by
  obtain ⟨a, cap, rfl, h1, h2, h3⟩ := Rd.shape h
  have Z1 : Blk (w.alloc (.cells #[.int .u32 0, .int .u32 0, .slice none 0 0] 44)) w.heap.size 44 [.int .u32 0, .int .u32 0, .slice none 0 0] := Blk.new w _ _
  have B2 : Blk ((w.alloc (.cells #[.int .u32 0, .int .u32 0, .slice none 0 0] 44)).alloc (.cells #[.int .u32 4294967295, .int .u32 0, .slice a l.length cap] 83)) (w.heap.size + 1) 83 [.int .u32 4294967295, .int .u32 0, .slice a l.length cap] := by
    have := Blk.new (w.alloc (.cells #[.int .u32 0, .int .u32 0, .slice none 0 0] 44)) [.int .u32 4294967295, .int .u32 0, .slice a l.length cap] 83
    rw [World.size_alloc] at this
    exact this
  have Z2 := Z1.alloc (.cells #[.int .u32 4294967295, .int .u32 0, .slice a l.length cap] 83)
  have R2 := Rd.alloc (Rd.alloc h (.cells #[.int .u32 0, .int .u32 0, .slice none 0 0] 44)) (.cells #[.int .u32 4294967295, .int .u32 0, .slice a l.length cap] 83)
  have E2 : Ext w ((w.alloc (.cells #[.int .u32 0, .int .u32 0, .slice none 0 0] 44)).alloc (.cells #[.int .u32 4294967295, .int .u32 0, .slice a l.length cap] 83)) := ((Ext.refl w).alloc _).alloc _
  have hof := Rd.off h (Nat.le_succ w.heap.size)
  go_enter Try.func27, Try.ntmps27
  go_wp2_with fail
  go_loopw [8] (fun i wr => ∃ (j : Nat) (c' : Int) (v' : Value) (l' : List Int), j ≤ 4 ∧ i = .int .i64 j ∧ Blk wr (w.heap.size + 1) 83 [.int .u32 4294967295, .int .u32 c', v'] ∧ Blk wr w.heap.size 44 [.int .u32 0, .int .u32 0, .slice none 0 0] ∧ Rd8 wr v' l' ∧ Bytes l' ∧ l'.length ≤ 800000 ∧ (0 < l'.length → v'.ownBlock ≠ some (w.heap.size + 1)) ∧ 0 ≤ c' ∧ c' ≤ 4294967295 ∧ Chg [] w wr ∧ Hid (opN (4 - j) c' l' = opN 4 0 l)) (fun i _ => (4 - intOf i).toNat)
  case atStart => exact ⟨0, 0, _, l, by omega, rfl, B2, Z2, R2, hb, hl, hof, by omega, by omega, Chg.of_ext [] E2, rfl⟩
  case round =>
    obtain ⟨j, c', v', l', hj, rfl, hBr, hZr, hRr, hbr, hlr, hor, a0, a1, hCr, hq⟩ := hrel
    by_cases hlt : j < 4
    · go_wp2_with fail
      refine (shift_any (w.heap.size + 1) _ v' c' l' hbr a0 a1 hor _ hBr hRr).mono ?_
      rintro e w2 ⟨rfl, v2, hB2, hR2, ho2, hC2⟩
      go_wp2_with fail
      go_roundw
      case rel => exact ⟨j + 1, shC c' l', v2, l'.tail, by omega, by go_num, hB2, hZr.chg hC2 (by simp), hR2, hbr.tail, by simp; omega, ho2, (shC_bd _ _).1, (shC_bd _ _).2, hCr.trans hC2 (by simp), by have h := hq.out; rw [show 4 - j = (4 - (j + 1)) + 1 by omega] at h; exact h⟩
      case measure => simp [intOf]; omega
    · obtain rfl : j = 4 := by omega
      have hres : Hid (opF l = (4294967295, c', l')) := by
        have h : (c', l') = opN 4 0 l := hq.out
        unfold opF
        rw [← h]; rfl
      go_wp2_with fail
      refine (state_any (w.heap.size + 1) _ c' v' l' (by omega) _ hBr hRr).mono ?_
      rintro e w5 ⟨a5, k5, rfl, hR5, hn5, g5⟩
      have W5Z := hZr.ext g5
      have z0 := W5Z.cell 0 _ rfl
      have z1 := W5Z.cell 1 _ rfl
      have z2 := W5Z.cell 2 _ rfl
      have y0 := W5Z.frozen 0
      have y1 := W5Z.frozen 1
      have y2 := W5Z.frozen 2
      go_wp2_with fail
      refine bodyPost_ret (v := .agg #[.int .u32 4294967295, .int .u32 c', .slice a5 l'.length k5]) (by simp [results, Try.results27, go_sem, z0, z1, z2]) rfl ?_
      rw [hres.out]
      have hC := (((hCr.trans (Chg.of_ext [] g5) (by simp)).setCell (p := ⟨w.heap.size, 0, none⟩) (Or.inr (by simp)) (.int .u32 4294967295)).setCell (p := ⟨w.heap.size, 1, none⟩) (Or.inr (by simp)) (.int .u32 c')).setCell (p := ⟨w.heap.size, 2, none⟩) (Or.inr (by simp)) (.slice a5 l'.length k5)
      have hD := (((Chg.refl [w.heap.size] w5).setCell (p := ⟨w.heap.size, 0, none⟩) (Or.inl (by simp)) (.int .u32 4294967295)).setCell (p := ⟨w.heap.size, 1, none⟩) (Or.inl (by simp)) (.int .u32 c')).setCell (p := ⟨w.heap.size, 2, none⟩) (Or.inl (by simp)) (.slice a5 l'.length k5)
      exact ⟨a5, k5, rfl, Rd.chg hR5 hD (by intro x hx _; simp at hx; subst hx; exact hn5 _ hZr.lt), hC.ext⟩

end Go.Proofs.Ytnodnfmgklkjeaa
