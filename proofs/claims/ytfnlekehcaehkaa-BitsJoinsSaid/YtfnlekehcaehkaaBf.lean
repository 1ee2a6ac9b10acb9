/- The program's Gamma. -/
import Derived.Test.YtfnlekehcaehkaaBe
namespace Go.Proofs.Ytfnlekehcaehkaa
open Go.RowKit
set_option linter.unusedVariables false
attribute [local go_sem ↓] Go.wp_at_zero Go.wp_at_succ

theorem put_any' (p B c m : Nat) (k : Int) (v : Value) (D : List Int) (y : Int) (hk : k = (m : Int)) (hn : m ≤ 32) (hc : c ≤ 599000) (hy0 : 0 ≤ y) (hy1 : y ≤ 4294967295) (w : World) (hBw : B ≤ w.heap.size) (h : Tape w p B v D c) :
    Calls Try.prog 25 #[.pointer (some ⟨p, 0, none⟩), .int .u32 y, .int .i64 k] w (PutPost p B c v D (low y m) w) := by
  subst hk
  exact put_any p B c m v D y hn hc hy0 hy1 w hBw h
/-- The bits of a gamma code. -/
def gam (n : Int) : List Int := low 0 (Lib.bitLen n.toNat - 1) ++ low n (Lib.bitLen n.toNat)
/-- What Gamma leaves. -/
def gamF (D : List Int) (c n : Int) : Int × List Int × Nat :=
  if chkb D c ≠ 0 then (chkb D c, [], 0) else if n < 1 ∨ 2147483647 < n then (2, [], 0)
  else if 524288 < c + 2 * (Lib.bitLen n.toNat : Int) - 1 then (5, [], 0) else (0, pshs D c.toNat (gam n), c.toNat + (2 * Lib.bitLen n.toNat - 1))
theorem len_ex (n : Int) (h0 : 1 ≤ n) (h1 : n ≤ 2147483647) : ∃ m, Lib.bitLen n.toNat = m + 1 ∧ m ≤ 30 := by
  obtain ⟨b1, b2, b3⟩ : 1 ≤ Lib.bitLen n.toNat ∧ 2 ^ (Lib.bitLen n.toNat - 1) ≤ n.toNat ∧ n.toNat < 2 ^ Lib.bitLen n.toNat := Lib.bitLenAux_bounds 64 n.toNat (by omega) (by omega)
  refine ⟨Lib.bitLen n.toNat - 1, by omega, ?_⟩
  rcases Nat.lt_or_ge 30 (Lib.bitLen n.toNat - 1) with h | h
  · exfalso
    have : 2 ^ 31 ≤ 2 ^ (Lib.bitLen n.toNat - 1) := Nat.pow_le_pow_right (by decide) (by omega)
    omega
  · exact h
theorem gam_len (n : Int) (m : Nat) (h : Lib.bitLen n.toNat = m + 1) : (gam n).length = 2 * m + 1 := by
  unfold gam
  rw [h, List.length_append, low_len, low_len]
  omega
theorem gam_01 (n : Int) : Bits01 (gam n) := by
  intro x hx
  rcases List.mem_append.1 hx with h | h
  · exact low_01 _ _ x h
  · exact low_01 _ _ x h

set_option maxHeartbeats 1000000 in
theorem gamma_bad0 (v : Value) (D : List Int) (c n : Int) (hb : Bytes D) (hl : D.length ≤ 900000) (hc0 : -9223372036854775808 ≤ c) (hc1 : c ≤ 9223372036854775807) (w : World) (h : Rd8 w v D) (hk : chkb D c ≠ 0) :
    Calls Try.prog 10 #[.agg #[v, .int .i64 c], .int .i64 n] w fun x w' => BitsPost w (gamF D c n) x w' := by
  have hE : gamF D c n = (chkb D c, [], 0) := by unfold gamF; rw [if_pos hk]
  rw [hE]
  obtain ⟨k, hk'⟩ : ∃ k, chkb D c = k := ⟨_, rfl⟩
  have hz : (k != 0) = true := by rw [← hk']; simp [hk]
  rw [hk']
  have Hk := hidden hk'
  clear hk hE hk'
  obtain ⟨a, cap, rfl, q1, q2, q3⟩ := Rd.shape h
  have W0B : Blk ((w.alloc (.cells #[.slice a D.length cap, .int .i64 c] 24)).alloc (.cells #[.slice none 0 0, .int .i64 0] 24)) w.heap.size 24 [.slice a D.length cap, .int .i64 c] := (Blk.new w [.slice a D.length cap, .int .i64 c] _).alloc _
  have W0Z : Blk ((w.alloc (.cells #[.slice a D.length cap, .int .i64 c] 24)).alloc (.cells #[.slice none 0 0, .int .i64 0] 24)) (w.heap.size + 1) 24 [.slice none 0 0, .int .i64 0] := by
    have := Blk.new (w.alloc (.cells #[.slice a D.length cap, .int .i64 c] 24)) [.slice none 0 0, .int .i64 0] 24
    rw [World.size_alloc] at this
    exact this
  have W0R : Rd8 ((w.alloc (.cells #[.slice a D.length cap, .int .i64 c] 24)).alloc (.cells #[.slice none 0 0, .int .i64 0] 24)) (.slice a D.length cap) D := Rd.alloc (Rd.alloc h _) _
  have W0E : Ext w ((w.alloc (.cells #[.slice a D.length cap, .int .i64 c] 24)).alloc (.cells #[.slice none 0 0, .int .i64 0] 24)) := ((Ext.refl w).alloc _).alloc _
  have p0 := W0B.cell 0 _ rfl
  have p1 := W0B.cell 1 _ rfl
  go_enter Try.func10, Try.ntmps10
  go_wp2_with fail
  refine (check_any _ D c hb (by omega) hc0 hc1 _ W0R).mono ?_
  rw [Hk.out]
  rintro e w1 ⟨rfl, g1⟩
  have W1B := W0B.ext g1
  have W1Z := W0Z.ext g1
  have pb0 := W1B.cell 0 _ rfl
  have pb1 := W1B.cell 1 _ rfl
  have pz0 := W1Z.cell 0 _ rfl
  have pz1 := W1Z.cell 1 _ rfl
  have py0 := W1Z.frozen 0
  have py1 := W1Z.frozen 1
  go_wp2_with fail
  refine bodyPost_ret (v := .tuple #[.agg #[.slice none 0 0, .int .i64 0], .int .i64 k]) (by simp [results, Try.results10, go_sem, pz0, pz1]) rfl ?_
  refine ⟨none, 0, rfl, Rd8.nil _, Fresh.nil _, ?_⟩
  exact ((Chg.of_ext [] (W0E.trans g1)).setCell (Or.inr (by simp)) _).setCell (Or.inr (by simp)) _ |>.ext

set_option maxHeartbeats 1000000 in
theorem gamma_bad1 (v : Value) (D : List Int) (c n : Int) (hb : Bytes D) (hl : D.length ≤ 900000) (hc0 : -9223372036854775808 ≤ c) (hc1 : c ≤ 9223372036854775807) (w : World) (h : Rd8 w v D) (hk : chkb D c = 0) (hn : n < 1 ∨ 2147483647 < n) :
    Calls Try.prog 10 #[.agg #[v, .int .i64 c], .int .i64 n] w fun x w' => BitsPost w (gamF D c n) x w' := by
  have hE : gamF D c n = (2, [], 0) := by unfold gamF; rw [if_neg (by simp [hk]), if_pos hn]
  rw [hE]
  have Hk := hidden hk
  clear hk hE
  obtain ⟨a, cap, rfl, q1, q2, q3⟩ := Rd.shape h
  have W0B : Blk ((w.alloc (.cells #[.slice a D.length cap, .int .i64 c] 24)).alloc (.cells #[.slice none 0 0, .int .i64 0] 24)) w.heap.size 24 [.slice a D.length cap, .int .i64 c] := (Blk.new w [.slice a D.length cap, .int .i64 c] _).alloc _
  have W0Z : Blk ((w.alloc (.cells #[.slice a D.length cap, .int .i64 c] 24)).alloc (.cells #[.slice none 0 0, .int .i64 0] 24)) (w.heap.size + 1) 24 [.slice none 0 0, .int .i64 0] := by
    have := Blk.new (w.alloc (.cells #[.slice a D.length cap, .int .i64 c] 24)) [.slice none 0 0, .int .i64 0] 24
    rw [World.size_alloc] at this
    exact this
  have W0R : Rd8 ((w.alloc (.cells #[.slice a D.length cap, .int .i64 c] 24)).alloc (.cells #[.slice none 0 0, .int .i64 0] 24)) (.slice a D.length cap) D := Rd.alloc (Rd.alloc h _) _
  have W0E : Ext w ((w.alloc (.cells #[.slice a D.length cap, .int .i64 c] 24)).alloc (.cells #[.slice none 0 0, .int .i64 0] 24)) := ((Ext.refl w).alloc _).alloc _
  have p0 := W0B.cell 0 _ rfl
  have p1 := W0B.cell 1 _ rfl
  rcases hn with hn | hn
  · have hn' : ¬ 2147483647 < n := by omega
    go_enter Try.func10, Try.ntmps10
    go_wp2_with fail
    refine (check_any _ D c hb (by omega) hc0 hc1 _ W0R).mono ?_
    rw [Hk.out]
    rintro e w1 ⟨rfl, g1⟩
    have W1B := W0B.ext g1
    have W1Z := W0Z.ext g1
    have pb0 := W1B.cell 0 _ rfl
    have pb1 := W1B.cell 1 _ rfl
    have pz0 := W1Z.cell 0 _ rfl
    have pz1 := W1Z.cell 1 _ rfl
    have py0 := W1Z.frozen 0
    have py1 := W1Z.frozen 1
    go_wp2_with fail
    refine bodyPost_ret (v := .tuple #[.agg #[.slice none 0 0, .int .i64 0], .int .i64 2]) (by simp [results, Try.results10, go_sem, pz0, pz1]) rfl ?_
    refine ⟨none, 0, rfl, Rd8.nil _, Fresh.nil _, ?_⟩
    exact ((Chg.of_ext [] (W0E.trans g1)).setCell (Or.inr (by simp)) _).setCell (Or.inr (by simp)) _ |>.ext
  · have hn' : ¬ n < 1 := by omega
    go_enter Try.func10, Try.ntmps10
    go_wp2_with fail
    refine (check_any _ D c hb (by omega) hc0 hc1 _ W0R).mono ?_
    rw [Hk.out]
    rintro e w1 ⟨rfl, g1⟩
    have W1B := W0B.ext g1
    have W1Z := W0Z.ext g1
    have pb0 := W1B.cell 0 _ rfl
    have pb1 := W1B.cell 1 _ rfl
    have pz0 := W1Z.cell 0 _ rfl
    have pz1 := W1Z.cell 1 _ rfl
    have py0 := W1Z.frozen 0
    have py1 := W1Z.frozen 1
    go_wp2_with fail
    refine bodyPost_ret (v := .tuple #[.agg #[.slice none 0 0, .int .i64 0], .int .i64 2]) (by simp [results, Try.results10, go_sem, pz0, pz1]) rfl ?_
    refine ⟨none, 0, rfl, Rd8.nil _, Fresh.nil _, ?_⟩
    exact ((Chg.of_ext [] (W0E.trans g1)).setCell (Or.inr (by simp)) _).setCell (Or.inr (by simp)) _ |>.ext

set_option maxHeartbeats 1000000 in
theorem gamma_bad3 (v : Value) (D : List Int) (c n : Int) (hb : Bytes D) (hl : D.length ≤ 900000) (hc0 : -9223372036854775808 ≤ c) (hc1 : c ≤ 9223372036854775807) (w : World) (h : Rd8 w v D) (hk : chkb D c = 0) (hn : 1 ≤ n ∧ n ≤ 2147483647) (hcn : 524288 < c + 2 * (Lib.bitLen n.toNat : Int) - 1) :
    Calls Try.prog 10 #[.agg #[v, .int .i64 c], .int .i64 n] w fun x w' => BitsPost w (gamF D c n) x w' := by
  have hE : gamF D c n = (5, [], 0) := by unfold gamF; rw [if_neg (by simp [hk]), if_neg (by omega), if_pos hcn]
  rw [hE]
  obtain ⟨hk0, hk1, -⟩ := chkb_wf hb hk
  have Hk := hidden hk
  clear hk hE
  obtain ⟨m, hL, hm⟩ := len_ex n hn.1 hn.2
  rw [hL] at hcn
  have hL := hidden hL
  have hcn' : (524288 : Int) < c + 2 * ((m : Int) + 1) - 1 := by omega
  clear hcn
  have hn4 : ¬ n < 1 := by omega
  have hn5 : ¬ 2147483647 < n := by omega
  obtain ⟨a, cap, rfl, q1, q2, q3⟩ := Rd.shape h
  have W0B : Blk ((w.alloc (.cells #[.slice a D.length cap, .int .i64 c] 24)).alloc (.cells #[.slice none 0 0, .int .i64 0] 24)) w.heap.size 24 [.slice a D.length cap, .int .i64 c] := (Blk.new w [.slice a D.length cap, .int .i64 c] _).alloc _
  have W0Z : Blk ((w.alloc (.cells #[.slice a D.length cap, .int .i64 c] 24)).alloc (.cells #[.slice none 0 0, .int .i64 0] 24)) (w.heap.size + 1) 24 [.slice none 0 0, .int .i64 0] := by
    have := Blk.new (w.alloc (.cells #[.slice a D.length cap, .int .i64 c] 24)) [.slice none 0 0, .int .i64 0] 24
    rw [World.size_alloc] at this
    exact this
  have W0R : Rd8 ((w.alloc (.cells #[.slice a D.length cap, .int .i64 c] 24)).alloc (.cells #[.slice none 0 0, .int .i64 0] 24)) (.slice a D.length cap) D := Rd.alloc (Rd.alloc h _) _
  have W0E : Ext w ((w.alloc (.cells #[.slice a D.length cap, .int .i64 c] 24)).alloc (.cells #[.slice none 0 0, .int .i64 0] 24)) := ((Ext.refl w).alloc _).alloc _
  have p0 := W0B.cell 0 _ rfl
  have p1 := W0B.cell 1 _ rfl
  go_enter Try.func10, Try.ntmps10
  go_wp2_with fail
  refine (check_any _ D c hb (by omega) hc0 hc1 _ W0R).mono ?_
  rw [Hk.out]
  rintro e w1 ⟨rfl, g1⟩
  have W1B := W0B.ext g1
  have W1Z := W0Z.ext g1
  have pb0 := W1B.cell 0 _ rfl
  have pb1 := W1B.cell 1 _ rfl
  have pz0 := W1Z.cell 0 _ rfl
  have pz1 := W1Z.cell 1 _ rfl
  have py0 := W1Z.frozen 0
  have py1 := W1Z.frozen 1
  go_wp2_with fail
  refine (Try.bits_Len n _ (by omega) (by omega)).mono ?_
  rw [hL.out]
  rintro e w2 ⟨rfl, rfl⟩
  go_wp2_with fail
  refine bodyPost_ret (v := .tuple #[.agg #[.slice none 0 0, .int .i64 0], .int .i64 5]) (by simp [results, Try.results10, go_sem, pz0, pz1]) rfl ?_
  refine ⟨none, 0, rfl, Rd8.nil _, Fresh.nil _, ?_⟩
  exact ((Chg.of_ext [] (W0E.trans g1)).setCell (Or.inr (by simp)) _).setCell (Or.inr (by simp)) _ |>.ext

set_option maxHeartbeats 1000000 in
theorem gamma_good (v : Value) (D : List Int) (c n : Int) (hb : Bytes D) (hl : D.length ≤ 900000) (hc0 : -9223372036854775808 ≤ c) (hc1 : c ≤ 9223372036854775807) (w : World) (h : Rd8 w v D) (hk : chkb D c = 0) (hn : 1 ≤ n ∧ n ≤ 2147483647) (hcn : c + 2 * (Lib.bitLen n.toNat : Int) - 1 ≤ 524288) :
    Calls Try.prog 10 #[.agg #[v, .int .i64 c], .int .i64 n] w fun x w' => BitsPost w (gamF D c n) x w' := by
  have hE : gamF D c n = (0, pshs D c.toNat (gam n), c.toNat + (2 * Lib.bitLen n.toNat - 1)) := by unfold gamF; rw [if_neg (by simp [hk]), if_neg (by omega), if_neg (by omega)]
  rw [hE]
  obtain ⟨hk0, hk1, hwf⟩ := chkb_wf hb hk
  have Hk := hidden hk
  clear hk hE
  obtain ⟨m, hL, hm⟩ := len_ex n hn.1 hn.2
  rw [hL] at hcn
  have hgl := gam_len n m hL
  have hgd : gam n = low 0 m ++ low n (m + 1) := by unfold gam; rw [hL]; rfl
  rw [hL, show 2 * (m + 1) - 1 = 2 * m + 1 by omega]
  have hL := hidden hL
  obtain ⟨c, rfl⟩ := Int.eq_ofNat_of_zero_le hk0
  simp only [Int.toNat_natCast] at hwf ⊢
  have hcn' : ¬ (524288 : Int) < (c : Int) + 2 * ((m : Int) + 1) - 1 := by omega
  have hcm : c + 2 * m + 1 ≤ 524288 := by omega
  clear hcn
  have hll := low_len 0 m
  have hll2 := low_len n (m + 1)
  obtain ⟨R, hR⟩ : ∃ R, pshs D c (gam n) = R := ⟨_, rfl⟩
  rw [hR]
  rw [hgd, pshs_app, hll] at hR
  have hR := hidden hR
  have hll := hidden hll
  have hll2 := hidden hll2
  clear hgl hgd
  have hn4 : ¬ n < 1 := by omega
  have hn5 : ¬ 2147483647 < n := by omega
  obtain ⟨a, cap, rfl, q1, q2, q3⟩ := Rd.shape h
  have W0B : Blk ((w.alloc (.cells #[.slice a D.length cap, .int .i64 c] 24)).alloc (.cells #[.slice none 0 0, .int .i64 0] 24)) w.heap.size 24 [.slice a D.length cap, .int .i64 (c : Int)] := (Blk.new w [.slice a D.length cap, .int .i64 (c : Int)] _).alloc _
  have W0Z : Blk ((w.alloc (.cells #[.slice a D.length cap, .int .i64 c] 24)).alloc (.cells #[.slice none 0 0, .int .i64 0] 24)) (w.heap.size + 1) 24 [.slice none 0 0, .int .i64 0] := by
    have := Blk.new (w.alloc (.cells #[.slice a D.length cap, .int .i64 c] 24)) [.slice none 0 0, .int .i64 0] 24
    rw [World.size_alloc] at this
    exact this
  have W0R : Rd8 ((w.alloc (.cells #[.slice a D.length cap, .int .i64 c] 24)).alloc (.cells #[.slice none 0 0, .int .i64 0] 24)) (.slice a D.length cap) D := Rd.alloc (Rd.alloc h _) _
  have W0E : Ext w ((w.alloc (.cells #[.slice a D.length cap, .int .i64 c] 24)).alloc (.cells #[.slice none 0 0, .int .i64 0] 24)) := ((Ext.refl w).alloc _).alloc _
  have p0 := W0B.cell 0 _ rfl
  have p1 := W0B.cell 1 _ rfl
  go_enter Try.func10, Try.ntmps10
  go_wp2_with fail
  refine (check_any _ D (c : Int) hb (by omega) hc0 hc1 _ W0R).mono ?_
  rw [Hk.out]
  rintro e w1 ⟨rfl, g1⟩
  have W1B := W0B.ext g1
  have W1Z := W0Z.ext g1
  have pb0 := W1B.cell 0 _ rfl
  have pb1 := W1B.cell 1 _ rfl
  have pz0 := W1Z.cell 0 _ rfl
  have pz1 := W1Z.cell 1 _ rfl
  have py0 := W1Z.frozen 0
  have py1 := W1Z.frozen 1
  go_wp2_with fail
  refine (Try.bits_Len n _ (by omega) (by omega)).mono ?_
  rw [hL.out]
  rintro e w2 ⟨rfl, rfl⟩
  go_wp2_with fail
  refine (copied_any _ D c hl hwf _ (W0R.ext g1)).mono ?_
  rintro e w3 ⟨p, v3, rfl, hT3, hp3, g3⟩
  have W3Z := W1Z.ext g3
  have hs1 := g1.size
  simp at hs1
  go_wp2_with fail
  refine (put_any' p _ c m _ v3 D 0 (by omega) (by omega) (by omega) (by omega) (by omega) _ g3.size hT3).mono ?_
  rintro e w4 ⟨rfl, v4, hT4, hS4, hC4⟩
  rw [hll.out] at hT4
  have hs4 := hC4.size
  have hs3 := g3.size
  go_wp2_with fail
  refine (put_any' p _ (c + m) (m + 1) _ v4 _ n (by omega) (by omega) (by omega) (by omega) (by omega) _ (by omega) hT4).mono ?_
  rintro e w5 ⟨rfl, v5, hT5, hS5, hC5⟩
  rw [hll2.out, hR.out, show c + m + (m + 1) = c + (2 * m + 1) by omega] at hT5
  have hC45 := hS4.chg hC4 hC5
  have hz1' := W0Z.lt
  simp at hz1'
  have W5Z := W3Z.chg hC45 (by
    intro hm
    simp only [List.mem_cons, Option.mem_toList] at hm
    rcases hm with hm | hm
    · omega
    · have := (own_lt hT3.own hm).1
      omega)
  obtain ⟨a4, c4, rfl, s1, s2, s3⟩ := Rd.shape hT5.own.rd
  have t0 := hT5.blk.cell 0 _ rfl
  have t1 := hT5.blk.cell 1 _ rfl
  have z0 := W5Z.cell 0 _ rfl
  have z1 := W5Z.cell 1 _ rfl
  have y0 := W5Z.frozen 0
  have y1 := W5Z.frozen 1
  have hC := ((Chg.of_ext [] (W0E.trans g1)).trans (Chg.of_ext [] g3) (by simp)).trans hC45 (fun x hx => by
    simp only [List.mem_cons, Option.mem_toList] at hx
    rcases hx with hx | hx
    · exact Or.inr (by omega)
    · have := (own_lt hT3.own hx).1
      exact Or.inr (by omega))
  go_wp2_with fail
  refine bodyPost_ret (v := .tuple #[.agg #[.slice a4 R.length c4, .int .i64 ((c + (2 * m + 1) : Nat) : Int)], .int .i64 0]) (by simp [results, Try.results10, go_sem, z0, z1]) rfl ?_
  have hD := ((Chg.refl [w.heap.size + 1] w5).setCell (p := ⟨w.heap.size + 1, 0, none⟩) (Or.inl (by simp)) (.slice a4 R.length c4)).setCell (p := ⟨w.heap.size + 1, 1, none⟩) (Or.inl (by simp)) (.int .i64 ((c + (2 * m + 1) : Nat) : Int))
  have hX := (hC.setCell (p := ⟨w.heap.size + 1, 0, none⟩) (Or.inr (by simp)) (.slice a4 R.length c4)).setCell (p := ⟨w.heap.size + 1, 1, none⟩) (Or.inr (by simp)) (.int .i64 ((c + (2 * m + 1) : Nat) : Int))
  refine ⟨a4, c4, rfl, ?_, Fresh.of_own hT5.own (by omega), hX.ext⟩
  exact Rd.chg hT5.own.rd hD (by intro x hx _ hv; simp at hx; subst hx; have := (own_lt hT5.own hv).1; omega)

theorem gamma_any (v : Value) (D : List Int) (c n : Int) (hb : Bytes D) (hl : D.length ≤ 900000) (hc0 : -9223372036854775808 ≤ c) (hc1 : c ≤ 9223372036854775807) (w : World) (h : Rd8 w v D) :
    Calls Try.prog 10 #[.agg #[v, .int .i64 c], .int .i64 n] w fun x w' => BitsPost w (gamF D c n) x w' := by
  by_cases hk : chkb D c = 0
  · by_cases hn : 1 ≤ n ∧ n ≤ 2147483647
    · by_cases hcn : c + 2 * (Lib.bitLen n.toNat : Int) - 1 ≤ 524288
      · exact gamma_good v D c n hb hl hc0 hc1 w h hk hn hcn
      · exact gamma_bad3 v D c n hb hl hc0 hc1 w h hk hn (by omega)
    · exact gamma_bad1 v D c n hb hl hc0 hc1 w h hk (by omega)
  · exact gamma_bad0 v D c n hb hl hc0 hc1 w h hk
end Go.Proofs.Ytfnlekehcaehkaa
