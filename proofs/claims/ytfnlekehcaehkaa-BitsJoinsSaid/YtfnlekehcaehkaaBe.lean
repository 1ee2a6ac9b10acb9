/- The program's Append. -/
import Derived.Test.YtfnlekehcaehkaaBd
import Derived.Test.YtfnlekehcaehkaaShelf
import Derived.Deep.RegionHeld3
import Derived.Lib.ItoaNum
namespace Go.Proofs.Ytfnlekehcaehkaa
open Go.RowKit
set_option linter.unusedVariables false
attribute [local go_sem ↓] Go.wp_at_zero Go.wp_at_succ

/-- What an operation leaves that returns a bit string and an error. -/
def BitsPost (w : World) (r : Int × List Int × Nat) (x : Ending) (w' : World) : Prop :=
  ∃ a k, x = .returned (.tuple #[.agg #[.slice a r.2.1.length k, .int .i64 (r.2.2 : Int)], .int .i64 r.1]) ∧ Rd8 w' (.slice a r.2.1.length k) r.2.1 ∧ Fresh w (.slice a r.2.1.length k) ∧ Ext w w'

set_option maxHeartbeats 1000000 in
theorem copied_any (v : Value) (D : List Int) (c : Nat) (hl : D.length ≤ 900000) (hwf : WF D c) (w : World) (h : Rd8 w v D) :
    Calls Try.prog 24 #[.agg #[v, .int .i64 (c : Int)]] w fun x w' => ∃ p v', x = .returned (.pointer (some ⟨p, 0, none⟩)) ∧ Tape w' p w.heap.size v' D c ∧ w.heap.size ≤ p ∧ Ext w w' := by
  have hB := Blk.new w [v, .int .i64 (c : Int)] 24
  obtain ⟨a, cap, rfl, h1, h2, h3⟩ := Rd.shape h
  have r0 := hB.cell 0 _ rfl
  have r1 := hB.cell 1 _ rfl
  have n0 := World.new_ne (w.alloc (.cells #[.slice a D.length cap, .int .i64 (c : Int)] 24)) _ r0
  have n1 := World.new_ne (w.alloc (.cells #[.slice a D.length cap, .int .i64 (c : Int)] 24)) _ r1
  have ha := (h.alloc (.cells #[.slice a D.length cap, .int .i64 (c : Int)] 24)).drew
  go_enter Try.func24, Try.ntmps24
  go_upto_region 1 with fail
  go_region_held3 (fun w' => w'.cell? ⟨w.heap.size, 0, none⟩ = some (.slice a D.length cap) ∧ w'.cell? ⟨w.heap.size, 1, none⟩ = some (.int .i64 (c : Int))) (go_keep)
    (first | (go_at_call 36; refine (clone_any _ D hl _ ha).mono ?_; rintro e w1 ⟨v1, rfl, hO1, g1⟩; obtain ⟨a1, c1, rfl, s1, s2, s3⟩ := Rd.shape hO1.rd; have k0 := g1.cell r0; have k1 := g1.cell r1))
  go_wp2_with fail
  go_ret
  have hs := g1.size
  simp at hs
  refine ⟨w1.heap.size, .slice a1 D.length c1, rfl, ⟨Blk.new w1 [.slice a1 D.length c1, .int .i64 (c : Int)] _, ?_, hwf⟩, by omega, (g1.past_drew.past).alloc _⟩
  exact own_mono (World.ownsRow.alloc hO1 _) (by simp)

/-- What Append leaves. -/
def appF (D : List Int) (c : Int) (y n : Int) : Int × List Int × Nat :=
  if chkb D c ≠ 0 then (chkb D c, [], 0) else if n < 0 ∨ 32 < n then (2, [], 0) else if 2 ^ n.toNat ≤ y then (1, [], 0)
  else if 524288 < c + n then (5, [], 0) else (0, pshs D c.toNat (low y n.toNat), c.toNat + n.toNat)
theorem bitLen_le_iff (y n : Nat) (hy : y < 4294967296) : Lib.bitLen y ≤ n ↔ y < 2 ^ n := by
  by_cases h0 : y = 0
  · subst h0
    have e : Lib.bitLen 0 = 0 := by decide
    rw [e]
    simp [Nat.pow_pos]
  · obtain ⟨b1, b2, b3⟩ : 1 ≤ Lib.bitLen y ∧ 2 ^ (Lib.bitLen y - 1) ≤ y ∧ y < 2 ^ Lib.bitLen y := Lib.bitLenAux_bounds 64 y (by omega) (by omega)
    constructor
    · intro h
      exact Nat.lt_of_lt_of_le b3 (Nat.pow_le_pow_right (by decide) h)
    · intro h
      rcases Nat.lt_or_ge n (Lib.bitLen y) with hl | hl
      · exfalso
        have : 2 ^ n ≤ 2 ^ (Lib.bitLen y - 1) := Nat.pow_le_pow_right (by decide) (by omega)
        omega
      · exact hl
theorem bitLen_cmp (y n : Int) (hy0 : 0 ≤ y) (hy1 : y ≤ 4294967295) (hn : 0 ≤ n) : ((Lib.bitLen y.toNat : Int) ≤ n) ↔ y < 2 ^ n.toNat := by
  have h := bitLen_le_iff y.toNat n.toNat (by omega)
  have e : ((2 ^ n.toNat : Nat) : Int) = (2 : Int) ^ n.toNat := by simp
  rw [← e]
  omega

set_option maxHeartbeats 1000000 in
theorem append_bad0 (v : Value) (D : List Int) (c y n : Int) (hb : Bytes D) (hl : D.length ≤ 900000) (hc0 : -9223372036854775808 ≤ c) (hc1 : c ≤ 9223372036854775807) (hy0 : 0 ≤ y) (hy1 : y ≤ 4294967295) (hn0 : -9223372036854775808 ≤ n) (hn1 : n ≤ 9223372036854775807) (w : World) (h : Rd8 w v D) (hk : chkb D c ≠ 0) :
    Calls Try.prog 16 #[.agg #[v, .int .i64 c], .int .u32 y, .int .i64 n] w fun x w' => BitsPost w (appF D c y n) x w' := by
  have hE : appF D c y n = (chkb D c, [], 0) := by unfold appF; rw [if_pos hk]
  rw [hE]
  obtain ⟨k, hk'⟩ : ∃ k, chkb D c = k := ⟨_, rfl⟩
  have hz : (k != 0) = true := by rw [← hk']; simp [hk]
  rw [hk']
  have Hk := hidden hk'
  clear hk hE hk'
  obtain ⟨a, cap, rfl, q1, q2, q3⟩ := Rd.shape h
  have W0B : Blk ((w.alloc (.cells #[.slice a D.length cap, .int .i64 c] 24)).alloc (.cells #[.slice none 0 0, .int .i64 0] 24)) w.heap.size 24 [.slice a D.length cap, .int .i64 c] := (Blk.new w [.slice a D.length cap, .int .i64 c] _).alloc _
  have W0Z : Blk ((w.alloc (.cells #[.slice a D.length cap, .int .i64 c] 24)).alloc (.cells #[.slice none 0 0, .int .i64 0] 24)) (w.heap.size + 1) 24 [.slice none 0 0, .int .i64 0] := by
    have := Blk.new (w.alloc (.cells #[.slice a D.length cap, .int .i64 c] 24)) [.slice none 0 0, .int .i64 0] 24
    rw [World.size_alloc] at this
    exact this
  have W0R : Rd8 ((w.alloc (.cells #[.slice a D.length cap, .int .i64 c] 24)).alloc (.cells #[.slice none 0 0, .int .i64 0] 24)) (.slice a D.length cap) D := Rd.alloc (Rd.alloc h _) _
  have W0E : Ext w ((w.alloc (.cells #[.slice a D.length cap, .int .i64 c] 24)).alloc (.cells #[.slice none 0 0, .int .i64 0] 24)) := ((Ext.refl w).alloc _).alloc _
  have p0 := W0B.cell 0 _ rfl
  have p1 := W0B.cell 1 _ rfl
  go_enter Try.func16, Try.ntmps16
  go_wp2_with fail
  refine (check_any _ D c hb (by omega) hc0 hc1 _ W0R).mono ?_
  rw [Hk.out]
  rintro e w1 ⟨rfl, g1⟩
  have W1B := W0B.ext g1
  have W1Z := W0Z.ext g1
  have pb0 := W1B.cell 0 _ rfl
  have pb1 := W1B.cell 1 _ rfl
  have pz0 := W1Z.cell 0 _ rfl
  have pz1 := W1Z.cell 1 _ rfl
  have py0 := W1Z.frozen 0
  have py1 := W1Z.frozen 1
  go_wp2_with fail
  refine bodyPost_ret (v := .tuple #[.agg #[.slice none 0 0, .int .i64 0], .int .i64 k]) (by simp [results, Try.results16, go_sem, pz0, pz1]) rfl ?_
  refine ⟨none, 0, rfl, Rd8.nil _, Fresh.nil _, ?_⟩
  exact ((Chg.of_ext [] (W0E.trans g1)).setCell (Or.inr (by simp)) _).setCell (Or.inr (by simp)) _ |>.ext

set_option maxHeartbeats 1000000 in
theorem append_bad1 (v : Value) (D : List Int) (c y n : Int) (hb : Bytes D) (hl : D.length ≤ 900000) (hc0 : -9223372036854775808 ≤ c) (hc1 : c ≤ 9223372036854775807) (hy0 : 0 ≤ y) (hy1 : y ≤ 4294967295) (hn0 : -9223372036854775808 ≤ n) (hn1 : n ≤ 9223372036854775807) (w : World) (h : Rd8 w v D) (hk : chkb D c = 0) (hn : n < 0 ∨ 32 < n) :
    Calls Try.prog 16 #[.agg #[v, .int .i64 c], .int .u32 y, .int .i64 n] w fun x w' => BitsPost w (appF D c y n) x w' := by
  have hE : appF D c y n = (2, [], 0) := by unfold appF; rw [if_neg (by simp [hk]), if_pos hn]
  rw [hE]
  have Hk := hidden hk
  clear hk hE
  obtain ⟨a, cap, rfl, q1, q2, q3⟩ := Rd.shape h
  have W0B : Blk ((w.alloc (.cells #[.slice a D.length cap, .int .i64 c] 24)).alloc (.cells #[.slice none 0 0, .int .i64 0] 24)) w.heap.size 24 [.slice a D.length cap, .int .i64 c] := (Blk.new w [.slice a D.length cap, .int .i64 c] _).alloc _
  have W0Z : Blk ((w.alloc (.cells #[.slice a D.length cap, .int .i64 c] 24)).alloc (.cells #[.slice none 0 0, .int .i64 0] 24)) (w.heap.size + 1) 24 [.slice none 0 0, .int .i64 0] := by
    have := Blk.new (w.alloc (.cells #[.slice a D.length cap, .int .i64 c] 24)) [.slice none 0 0, .int .i64 0] 24
    rw [World.size_alloc] at this
    exact this
  have W0R : Rd8 ((w.alloc (.cells #[.slice a D.length cap, .int .i64 c] 24)).alloc (.cells #[.slice none 0 0, .int .i64 0] 24)) (.slice a D.length cap) D := Rd.alloc (Rd.alloc h _) _
  have W0E : Ext w ((w.alloc (.cells #[.slice a D.length cap, .int .i64 c] 24)).alloc (.cells #[.slice none 0 0, .int .i64 0] 24)) := ((Ext.refl w).alloc _).alloc _
  have p0 := W0B.cell 0 _ rfl
  have p1 := W0B.cell 1 _ rfl
  rcases hn with hn | hn
  · have hn' : ¬ 32 < n := by omega
    go_enter Try.func16, Try.ntmps16
    go_wp2_with fail
    refine (check_any _ D c hb (by omega) hc0 hc1 _ W0R).mono ?_
    rw [Hk.out]
    rintro e w1 ⟨rfl, g1⟩
    have W1B := W0B.ext g1
    have W1Z := W0Z.ext g1
    have pb0 := W1B.cell 0 _ rfl
    have pb1 := W1B.cell 1 _ rfl
    have pz0 := W1Z.cell 0 _ rfl
    have pz1 := W1Z.cell 1 _ rfl
    have py0 := W1Z.frozen 0
    have py1 := W1Z.frozen 1
    go_wp2_with fail
    refine bodyPost_ret (v := .tuple #[.agg #[.slice none 0 0, .int .i64 0], .int .i64 2]) (by simp [results, Try.results16, go_sem, pz0, pz1]) rfl ?_
    refine ⟨none, 0, rfl, Rd8.nil _, Fresh.nil _, ?_⟩
    exact ((Chg.of_ext [] (W0E.trans g1)).setCell (Or.inr (by simp)) _).setCell (Or.inr (by simp)) _ |>.ext
  · have hn' : ¬ n < 0 := by omega
    go_enter Try.func16, Try.ntmps16
    go_wp2_with fail
    refine (check_any _ D c hb (by omega) hc0 hc1 _ W0R).mono ?_
    rw [Hk.out]
    rintro e w1 ⟨rfl, g1⟩
    have W1B := W0B.ext g1
    have W1Z := W0Z.ext g1
    have pb0 := W1B.cell 0 _ rfl
    have pb1 := W1B.cell 1 _ rfl
    have pz0 := W1Z.cell 0 _ rfl
    have pz1 := W1Z.cell 1 _ rfl
    have py0 := W1Z.frozen 0
    have py1 := W1Z.frozen 1
    go_wp2_with fail
    refine bodyPost_ret (v := .tuple #[.agg #[.slice none 0 0, .int .i64 0], .int .i64 2]) (by simp [results, Try.results16, go_sem, pz0, pz1]) rfl ?_
    refine ⟨none, 0, rfl, Rd8.nil _, Fresh.nil _, ?_⟩
    exact ((Chg.of_ext [] (W0E.trans g1)).setCell (Or.inr (by simp)) _).setCell (Or.inr (by simp)) _ |>.ext

set_option maxHeartbeats 1000000 in
theorem append_bad2 (v : Value) (D : List Int) (c y n : Int) (hb : Bytes D) (hl : D.length ≤ 900000) (hc0 : -9223372036854775808 ≤ c) (hc1 : c ≤ 9223372036854775807) (hy0 : 0 ≤ y) (hy1 : y ≤ 4294967295) (hn0 : -9223372036854775808 ≤ n) (hn1 : n ≤ 9223372036854775807) (w : World) (h : Rd8 w v D) (hk : chkb D c = 0) (hn : 0 ≤ n ∧ n ≤ 32) (hy : 2 ^ n.toNat ≤ y) :
    Calls Try.prog 16 #[.agg #[v, .int .i64 c], .int .u32 y, .int .i64 n] w fun x w' => BitsPost w (appF D c y n) x w' := by
  have hE : appF D c y n = (1, [], 0) := by unfold appF; rw [if_neg (by simp [hk]), if_neg (by omega), if_pos hy]
  rw [hE]
  have Hk := hidden hk
  clear hk hE
  obtain ⟨hn2, hn3⟩ := hn
  have hbl := bitLen_cmp y n hy0 hy1 hn2
  obtain ⟨L, hL⟩ : ∃ L, Lib.bitLen y.toNat = L := ⟨_, rfl⟩
  rw [hL] at hbl
  have hlt : n < (L : Int) := by
    rcases Int.lt_or_le n (L : Int) with h | h
    · exact h
    · have := hbl.1 h; omega
  have hL := hidden hL
  clear hbl hy
  have hn4 : ¬ n < 0 := by omega
  have hn5 : ¬ 32 < n := by omega
  obtain ⟨a, cap, rfl, q1, q2, q3⟩ := Rd.shape h
  have W0B : Blk ((w.alloc (.cells #[.slice a D.length cap, .int .i64 c] 24)).alloc (.cells #[.slice none 0 0, .int .i64 0] 24)) w.heap.size 24 [.slice a D.length cap, .int .i64 c] := (Blk.new w [.slice a D.length cap, .int .i64 c] _).alloc _
  have W0Z : Blk ((w.alloc (.cells #[.slice a D.length cap, .int .i64 c] 24)).alloc (.cells #[.slice none 0 0, .int .i64 0] 24)) (w.heap.size + 1) 24 [.slice none 0 0, .int .i64 0] := by
    have := Blk.new (w.alloc (.cells #[.slice a D.length cap, .int .i64 c] 24)) [.slice none 0 0, .int .i64 0] 24
    rw [World.size_alloc] at this
    exact this
  have W0R : Rd8 ((w.alloc (.cells #[.slice a D.length cap, .int .i64 c] 24)).alloc (.cells #[.slice none 0 0, .int .i64 0] 24)) (.slice a D.length cap) D := Rd.alloc (Rd.alloc h _) _
  have W0E : Ext w ((w.alloc (.cells #[.slice a D.length cap, .int .i64 c] 24)).alloc (.cells #[.slice none 0 0, .int .i64 0] 24)) := ((Ext.refl w).alloc _).alloc _
  have p0 := W0B.cell 0 _ rfl
  have p1 := W0B.cell 1 _ rfl
  go_enter Try.func16, Try.ntmps16
  go_wp2_with fail
  refine (check_any _ D c hb (by omega) hc0 hc1 _ W0R).mono ?_
  rw [Hk.out]
  rintro e w1 ⟨rfl, g1⟩
  have W1B := W0B.ext g1
  have W1Z := W0Z.ext g1
  have pb0 := W1B.cell 0 _ rfl
  have pb1 := W1B.cell 1 _ rfl
  have pz0 := W1Z.cell 0 _ rfl
  have pz1 := W1Z.cell 1 _ rfl
  have py0 := W1Z.frozen 0
  have py1 := W1Z.frozen 1
  go_wp2_with fail
  refine (Try.bits_Len32 y _ hy0 hy1).mono ?_
  rw [hL.out]
  rintro e w2 ⟨rfl, rfl⟩
  go_wp2_with fail
  refine bodyPost_ret (v := .tuple #[.agg #[.slice none 0 0, .int .i64 0], .int .i64 1]) (by simp [results, Try.results16, go_sem, pz0, pz1]) rfl ?_
  refine ⟨none, 0, rfl, Rd8.nil _, Fresh.nil _, ?_⟩
  exact ((Chg.of_ext [] (W0E.trans g1)).setCell (Or.inr (by simp)) _).setCell (Or.inr (by simp)) _ |>.ext

set_option maxHeartbeats 1000000 in
theorem append_bad3 (v : Value) (D : List Int) (c y n : Int) (hb : Bytes D) (hl : D.length ≤ 900000) (hc0 : -9223372036854775808 ≤ c) (hc1 : c ≤ 9223372036854775807) (hy0 : 0 ≤ y) (hy1 : y ≤ 4294967295) (hn0 : -9223372036854775808 ≤ n) (hn1 : n ≤ 9223372036854775807) (w : World) (h : Rd8 w v D) (hk : chkb D c = 0) (hn : 0 ≤ n ∧ n ≤ 32) (hy : y < 2 ^ n.toNat) (hcn : 524288 < c + n) :
    Calls Try.prog 16 #[.agg #[v, .int .i64 c], .int .u32 y, .int .i64 n] w fun x w' => BitsPost w (appF D c y n) x w' := by
  have hE : appF D c y n = (5, [], 0) := by unfold appF; rw [if_neg (by simp [hk]), if_neg (by omega), if_neg (by omega), if_pos hcn]
  rw [hE]
  obtain ⟨hk0, hk1, -⟩ := chkb_wf hb hk
  have Hk := hidden hk
  clear hk hE
  obtain ⟨hn2, hn3⟩ := hn
  have hbl := bitLen_cmp y n hy0 hy1 hn2
  obtain ⟨L, hL⟩ : ∃ L, Lib.bitLen y.toNat = L := ⟨_, rfl⟩
  rw [hL] at hbl
  have hlt : ¬ n < (L : Int) := by have := hbl.2 hy; omega
  have hL := hidden hL
  clear hbl hy
  have hn4 : ¬ n < 0 := by omega
  have hn5 : ¬ 32 < n := by omega
  obtain ⟨a, cap, rfl, q1, q2, q3⟩ := Rd.shape h
  have W0B : Blk ((w.alloc (.cells #[.slice a D.length cap, .int .i64 c] 24)).alloc (.cells #[.slice none 0 0, .int .i64 0] 24)) w.heap.size 24 [.slice a D.length cap, .int .i64 c] := (Blk.new w [.slice a D.length cap, .int .i64 c] _).alloc _
  have W0Z : Blk ((w.alloc (.cells #[.slice a D.length cap, .int .i64 c] 24)).alloc (.cells #[.slice none 0 0, .int .i64 0] 24)) (w.heap.size + 1) 24 [.slice none 0 0, .int .i64 0] := by
    have := Blk.new (w.alloc (.cells #[.slice a D.length cap, .int .i64 c] 24)) [.slice none 0 0, .int .i64 0] 24
    rw [World.size_alloc] at this
    exact this
  have W0R : Rd8 ((w.alloc (.cells #[.slice a D.length cap, .int .i64 c] 24)).alloc (.cells #[.slice none 0 0, .int .i64 0] 24)) (.slice a D.length cap) D := Rd.alloc (Rd.alloc h _) _
  have W0E : Ext w ((w.alloc (.cells #[.slice a D.length cap, .int .i64 c] 24)).alloc (.cells #[.slice none 0 0, .int .i64 0] 24)) := ((Ext.refl w).alloc _).alloc _
  have p0 := W0B.cell 0 _ rfl
  have p1 := W0B.cell 1 _ rfl
  go_enter Try.func16, Try.ntmps16
  go_wp2_with fail
  refine (check_any _ D c hb (by omega) hc0 hc1 _ W0R).mono ?_
  rw [Hk.out]
  rintro e w1 ⟨rfl, g1⟩
  have W1B := W0B.ext g1
  have W1Z := W0Z.ext g1
  have pb0 := W1B.cell 0 _ rfl
  have pb1 := W1B.cell 1 _ rfl
  have pz0 := W1Z.cell 0 _ rfl
  have pz1 := W1Z.cell 1 _ rfl
  have py0 := W1Z.frozen 0
  have py1 := W1Z.frozen 1
  go_wp2_with fail
  refine (Try.bits_Len32 y _ hy0 hy1).mono ?_
  rw [hL.out]
  rintro e w2 ⟨rfl, rfl⟩
  go_wp2_with fail
  refine bodyPost_ret (v := .tuple #[.agg #[.slice none 0 0, .int .i64 0], .int .i64 5]) (by simp [results, Try.results16, go_sem, pz0, pz1]) rfl ?_
  refine ⟨none, 0, rfl, Rd8.nil _, Fresh.nil _, ?_⟩
  exact ((Chg.of_ext [] (W0E.trans g1)).setCell (Or.inr (by simp)) _).setCell (Or.inr (by simp)) _ |>.ext

set_option maxHeartbeats 1000000 in
theorem append_good (v : Value) (D : List Int) (c y n : Int) (hb : Bytes D) (hl : D.length ≤ 900000) (hc0 : -9223372036854775808 ≤ c) (hc1 : c ≤ 9223372036854775807) (hy0 : 0 ≤ y) (hy1 : y ≤ 4294967295) (hn0 : -9223372036854775808 ≤ n) (hn1 : n ≤ 9223372036854775807) (w : World) (h : Rd8 w v D) (hk : chkb D c = 0) (hn : 0 ≤ n ∧ n ≤ 32) (hy : y < 2 ^ n.toNat) (hcn : c + n ≤ 524288) :
    Calls Try.prog 16 #[.agg #[v, .int .i64 c], .int .u32 y, .int .i64 n] w fun x w' => BitsPost w (appF D c y n) x w' := by
  have hE : appF D c y n = (0, pshs D c.toNat (low y n.toNat), c.toNat + n.toNat) := by unfold appF; rw [if_neg (by simp [hk]), if_neg (by omega), if_neg (by omega), if_neg (by omega)]
  rw [hE]
  obtain ⟨hk0, hk1, hwf⟩ := chkb_wf hb hk
  have Hk := hidden hk
  clear hk hE
  obtain ⟨hn2, hn3⟩ := hn
  have hbl := bitLen_cmp y n hy0 hy1 hn2
  obtain ⟨L, hL⟩ : ∃ L, Lib.bitLen y.toNat = L := ⟨_, rfl⟩
  rw [hL] at hbl
  have hlt : ¬ n < (L : Int) := by have := hbl.2 hy; omega
  have hL := hidden hL
  clear hbl hy
  obtain ⟨c, rfl⟩ := Int.eq_ofNat_of_zero_le hk0
  obtain ⟨n, rfl⟩ := Int.eq_ofNat_of_zero_le hn2
  simp only [Int.toNat_natCast] at hwf ⊢
  have hcn' : ¬ (524288 : Int) < (c : Int) + (n : Int) := by omega
  have hll := low_len y n
  have hn4 : ¬ (n : Int) < 0 := by omega
  have hn5 : ¬ 32 < (n : Int) := by omega
  obtain ⟨a, cap, rfl, q1, q2, q3⟩ := Rd.shape h
  have W0B : Blk ((w.alloc (.cells #[.slice a D.length cap, .int .i64 c] 24)).alloc (.cells #[.slice none 0 0, .int .i64 0] 24)) w.heap.size 24 [.slice a D.length cap, .int .i64 (c : Int)] := (Blk.new w [.slice a D.length cap, .int .i64 (c : Int)] _).alloc _
  have W0Z : Blk ((w.alloc (.cells #[.slice a D.length cap, .int .i64 c] 24)).alloc (.cells #[.slice none 0 0, .int .i64 0] 24)) (w.heap.size + 1) 24 [.slice none 0 0, .int .i64 0] := by
    have := Blk.new (w.alloc (.cells #[.slice a D.length cap, .int .i64 c] 24)) [.slice none 0 0, .int .i64 0] 24
    rw [World.size_alloc] at this
    exact this
  have W0R : Rd8 ((w.alloc (.cells #[.slice a D.length cap, .int .i64 c] 24)).alloc (.cells #[.slice none 0 0, .int .i64 0] 24)) (.slice a D.length cap) D := Rd.alloc (Rd.alloc h _) _
  have W0E : Ext w ((w.alloc (.cells #[.slice a D.length cap, .int .i64 c] 24)).alloc (.cells #[.slice none 0 0, .int .i64 0] 24)) := ((Ext.refl w).alloc _).alloc _
  have p0 := W0B.cell 0 _ rfl
  have p1 := W0B.cell 1 _ rfl
  go_enter Try.func16, Try.ntmps16
  go_wp2_with fail
  refine (check_any _ D (c : Int) hb (by omega) hc0 hc1 _ W0R).mono ?_
  rw [Hk.out]
  rintro e w1 ⟨rfl, g1⟩
  have W1B := W0B.ext g1
  have W1Z := W0Z.ext g1
  have pb0 := W1B.cell 0 _ rfl
  have pb1 := W1B.cell 1 _ rfl
  have pz0 := W1Z.cell 0 _ rfl
  have pz1 := W1Z.cell 1 _ rfl
  have py0 := W1Z.frozen 0
  have py1 := W1Z.frozen 1
  go_wp2_with fail
  refine (Try.bits_Len32 y _ hy0 hy1).mono ?_
  rw [hL.out]
  rintro e w2 ⟨rfl, rfl⟩
  go_wp2_with fail
  refine (copied_any _ D c hl hwf _ (W0R.ext g1)).mono ?_
  rintro e w3 ⟨p, v3, rfl, hT3, hp3, g3⟩
  have W3Z := W1Z.ext g3
  have hs1 := g1.size
  simp at hs1
  go_wp2_with fail
  refine (put_any p _ c n v3 D y (by omega) (by omega) hy0 hy1 _ g3.size hT3).mono ?_
  rintro e w4 ⟨rfl, v4, hT4, hS4, hC4⟩
  rw [hll] at hT4
  have hz1' := W0Z.lt
  simp at hz1'
  have W4Z := W3Z.chg hC4 (by
    intro hm
    simp only [List.mem_cons, Option.mem_toList] at hm
    rcases hm with hm | hm
    · omega
    · have := (own_lt hT3.own hm).1
      omega)
  obtain ⟨a4, c4, rfl, s1, s2, s3⟩ := Rd.shape hT4.own.rd
  have t0 := hT4.blk.cell 0 _ rfl
  have t1 := hT4.blk.cell 1 _ rfl
  have z0 := W4Z.cell 0 _ rfl
  have z1 := W4Z.cell 1 _ rfl
  have y0 := W4Z.frozen 0
  have y1 := W4Z.frozen 1
  have hC := ((Chg.of_ext [] (W0E.trans g1)).trans (Chg.of_ext [] g3) (by simp)).trans hC4 (fun x hx => by
    simp only [List.mem_cons, Option.mem_toList] at hx
    rcases hx with hx | hx
    · exact Or.inr (by omega)
    · have := (own_lt hT3.own hx).1
      exact Or.inr (by omega))
  go_wp2_with fail
  refine bodyPost_ret (v := .tuple #[.agg #[.slice a4 (pshs D c (low y n)).length c4, .int .i64 ((c + n : Nat) : Int)], .int .i64 0]) (by simp [results, Try.results16, go_sem, z0, z1]) rfl ?_
  have hD := ((Chg.refl [w.heap.size + 1] w4).setCell (p := ⟨w.heap.size + 1, 0, none⟩) (Or.inl (by simp)) (.slice a4 (pshs D c (low y n)).length c4)).setCell (p := ⟨w.heap.size + 1, 1, none⟩) (Or.inl (by simp)) (.int .i64 ((c + n : Nat) : Int))
  have hX := (hC.setCell (p := ⟨w.heap.size + 1, 0, none⟩) (Or.inr (by simp)) (.slice a4 (pshs D c (low y n)).length c4)).setCell (p := ⟨w.heap.size + 1, 1, none⟩) (Or.inr (by simp)) (.int .i64 ((c + n : Nat) : Int))
  refine ⟨a4, c4, rfl, ?_, Fresh.of_own hT4.own (by omega), hX.ext⟩
  exact Rd.chg hT4.own.rd hD (by intro x hx _ hv; simp at hx; subst hx; have := (own_lt hT4.own hv).1; omega)

theorem append_any (v : Value) (D : List Int) (c y n : Int) (hb : Bytes D) (hl : D.length ≤ 900000) (hc0 : -9223372036854775808 ≤ c) (hc1 : c ≤ 9223372036854775807) (hy0 : 0 ≤ y) (hy1 : y ≤ 4294967295) (hn0 : -9223372036854775808 ≤ n) (hn1 : n ≤ 9223372036854775807) (w : World) (h : Rd8 w v D) :
    Calls Try.prog 16 #[.agg #[v, .int .i64 c], .int .u32 y, .int .i64 n] w fun x w' => BitsPost w (appF D c y n) x w' := by
  by_cases hk : chkb D c = 0
  · by_cases hn : 0 ≤ n ∧ n ≤ 32
    · by_cases hy : y < 2 ^ n.toNat
      · by_cases hcn : c + n ≤ 524288
        · exact append_good v D c y n hb hl hc0 hc1 hy0 hy1 hn0 hn1 w h hk hn hy hcn
        · exact append_bad3 v D c y n hb hl hc0 hc1 hy0 hy1 hn0 hn1 w h hk hn hy (by omega)
      · exact append_bad2 v D c y n hb hl hc0 hc1 hy0 hy1 hn0 hn1 w h hk hn (by omega)
    · exact append_bad1 v D c y n hb hl hc0 hc1 hy0 hy1 hn0 hn1 w h hk (by omega)
  · exact append_bad0 v D c y n hb hl hc0 hc1 hy0 hy1 hn0 hn1 w h hk
end Go.Proofs.Ytfnlekehcaehkaa
