/- The reference Slice, error cases. -/
import Derived.Test.YtfnlekehcaehkaaBzb
import Derived.Test.YtfnlekehcaehkaaBp
namespace Go.Proofs.Ytfnlekehcaehkaa
open Go.RowKit
set_option linter.unusedVariables false
attribute [local go_sem ↓] Go.wp_at_zero Go.wp_at_succ


set_option maxHeartbeats 1000000 in
theorem rslice_bad0 (v : Value) (D : List Int) (c x y : Int) (hb : Bytes D) (hl : D.length ≤ 60000) (hc0 : -9223372036854775808 ≤ c) (hc1 : c ≤ 9223372036854775807) (w : World) (h : Rd8 w v D) (hk : chkb D c ≠ 0) :
    Calls Try.prog 20 #[.agg #[v, .int .i64 c], .int .i64 x, .int .i64 y] w fun e w' => BitsPost w (slcF D c x y) e w' := by
  have hE : slcF D c x y = (chkb D c, [], 0) := by unfold slcF; rw [if_pos hk]
  rw [hE]
  obtain ⟨k, hk'⟩ : ∃ k, chkb D c = k := ⟨_, rfl⟩
  have hz : (k != 0) = true := by rw [← hk']; simp [hk]
  rw [hk']
  have Hk := hidden hk'
  clear hk hE hk'
  obtain ⟨a, cap, rfl, q1, q2, q3⟩ := Rd.shape h
  have W0B : Blk ((w.alloc (.cells #[.slice a D.length cap, .int .i64 c] 24)).alloc (.cells #[.slice none 0 0, .int .i64 0] 24)) w.heap.size 24 [.slice a D.length cap, .int .i64 c] := (Blk.new w [.slice a D.length cap, .int .i64 c] _).alloc _
  have W0Z : Blk ((w.alloc (.cells #[.slice a D.length cap, .int .i64 c] 24)).alloc (.cells #[.slice none 0 0, .int .i64 0] 24)) (w.heap.size + 1) 24 [.slice none 0 0, .int .i64 0] := by
    have := Blk.new (w.alloc (.cells #[.slice a D.length cap, .int .i64 c] 24)) [.slice none 0 0, .int .i64 0] 24
    rw [World.size_alloc] at this
    exact this
  have W0R : Rd8 ((w.alloc (.cells #[.slice a D.length cap, .int .i64 c] 24)).alloc (.cells #[.slice none 0 0, .int .i64 0] 24)) (.slice a D.length cap) D := Rd.alloc (Rd.alloc h _) _
  have W0E : Ext w ((w.alloc (.cells #[.slice a D.length cap, .int .i64 c] 24)).alloc (.cells #[.slice none 0 0, .int .i64 0] 24)) := ((Ext.refl w).alloc _).alloc _
  have p0 := W0B.cell 0 _ rfl
  have p1 := W0B.cell 1 _ rfl
  go_enter Try.func20, Try.ntmps20
  go_wp2_with fail
  refine (rcheck_any _ D c hb (by omega) hc0 hc1 _ W0R).mono ?_
  rw [Hk.out]
  rintro e w1 ⟨rfl, g1⟩
  have W1B := W0B.ext g1
  have W1Z := W0Z.ext g1
  have pb0 := W1B.cell 0 _ rfl
  have pb1 := W1B.cell 1 _ rfl
  have pz0 := W1Z.cell 0 _ rfl
  have pz1 := W1Z.cell 1 _ rfl
  have py0 := W1Z.frozen 0
  have py1 := W1Z.frozen 1
  go_wp2_with fail
  refine bodyPost_ret (v := .tuple #[.agg #[.slice none 0 0, .int .i64 0], .int .i64 k]) (by simp [results, Try.results20, go_sem, pz0, pz1]) rfl ?_
  refine ⟨none, 0, rfl, Rd8.nil _, Fresh.nil _, ?_⟩
  exact ((Chg.of_ext [] (W0E.trans g1)).setCell (Or.inr (by simp)) _).setCell (Or.inr (by simp)) _ |>.ext

set_option maxHeartbeats 1000000 in
theorem rslice_bad1 (v : Value) (D : List Int) (c x y : Int) (hb : Bytes D) (hl : D.length ≤ 60000) (hc0 : -9223372036854775808 ≤ c) (hc1 : c ≤ 9223372036854775807) (w : World) (h : Rd8 w v D) (hk : chkb D c = 0) (hn : x < 0 ∨ y < x ∨ c < y) :
    Calls Try.prog 20 #[.agg #[v, .int .i64 c], .int .i64 x, .int .i64 y] w fun e w' => BitsPost w (slcF D c x y) e w' := by
  have hE : slcF D c x y = (2, [], 0) := by unfold slcF; rw [if_neg (by simp [hk]), if_pos hn]
  rw [hE]
  have Hk := hidden hk
  clear hk hE
  obtain ⟨a, cap, rfl, q1, q2, q3⟩ := Rd.shape h
  have W0B : Blk ((w.alloc (.cells #[.slice a D.length cap, .int .i64 c] 24)).alloc (.cells #[.slice none 0 0, .int .i64 0] 24)) w.heap.size 24 [.slice a D.length cap, .int .i64 c] := (Blk.new w [.slice a D.length cap, .int .i64 c] _).alloc _
  have W0Z : Blk ((w.alloc (.cells #[.slice a D.length cap, .int .i64 c] 24)).alloc (.cells #[.slice none 0 0, .int .i64 0] 24)) (w.heap.size + 1) 24 [.slice none 0 0, .int .i64 0] := by
    have := Blk.new (w.alloc (.cells #[.slice a D.length cap, .int .i64 c] 24)) [.slice none 0 0, .int .i64 0] 24
    rw [World.size_alloc] at this
    exact this
  have W0R : Rd8 ((w.alloc (.cells #[.slice a D.length cap, .int .i64 c] 24)).alloc (.cells #[.slice none 0 0, .int .i64 0] 24)) (.slice a D.length cap) D := Rd.alloc (Rd.alloc h _) _
  have W0E : Ext w ((w.alloc (.cells #[.slice a D.length cap, .int .i64 c] 24)).alloc (.cells #[.slice none 0 0, .int .i64 0] 24)) := ((Ext.refl w).alloc _).alloc _
  have p0 := W0B.cell 0 _ rfl
  have p1 := W0B.cell 1 _ rfl
  by_cases h1 : x < 0
  · clear hn
    go_enter Try.func20, Try.ntmps20
    go_wp2_with fail
    refine (rcheck_any _ D c hb (by omega) hc0 hc1 _ W0R).mono ?_
    rw [Hk.out]
    rintro e w1 ⟨rfl, g1⟩
    have W1B := W0B.ext g1
    have W1Z := W0Z.ext g1
    have pb0 := W1B.cell 0 _ rfl
    have pb1 := W1B.cell 1 _ rfl
    have pz0 := W1Z.cell 0 _ rfl
    have pz1 := W1Z.cell 1 _ rfl
    have py0 := W1Z.frozen 0
    have py1 := W1Z.frozen 1
    go_wp2_with fail
    refine bodyPost_ret (v := .tuple #[.agg #[.slice none 0 0, .int .i64 0], .int .i64 2]) (by simp [results, Try.results20, go_sem, pz0, pz1]) rfl ?_
    refine ⟨none, 0, rfl, Rd8.nil _, Fresh.nil _, ?_⟩
    exact ((Chg.of_ext [] (W0E.trans g1)).setCell (Or.inr (by simp)) _).setCell (Or.inr (by simp)) _ |>.ext
  · by_cases h2 : y < x
    · clear hn
      go_enter Try.func20, Try.ntmps20
      go_wp2_with fail
      refine (rcheck_any _ D c hb (by omega) hc0 hc1 _ W0R).mono ?_
      rw [Hk.out]
      rintro e w1 ⟨rfl, g1⟩
      have W1B := W0B.ext g1
      have W1Z := W0Z.ext g1
      have pb0 := W1B.cell 0 _ rfl
      have pb1 := W1B.cell 1 _ rfl
      have pz0 := W1Z.cell 0 _ rfl
      have pz1 := W1Z.cell 1 _ rfl
      have py0 := W1Z.frozen 0
      have py1 := W1Z.frozen 1
      go_wp2_with fail
      refine bodyPost_ret (v := .tuple #[.agg #[.slice none 0 0, .int .i64 0], .int .i64 2]) (by simp [results, Try.results20, go_sem, pz0, pz1]) rfl ?_
      refine ⟨none, 0, rfl, Rd8.nil _, Fresh.nil _, ?_⟩
      exact ((Chg.of_ext [] (W0E.trans g1)).setCell (Or.inr (by simp)) _).setCell (Or.inr (by simp)) _ |>.ext
    · have h3 : c < y := by omega
      clear hn
      go_enter Try.func20, Try.ntmps20
      go_wp2_with fail
      refine (rcheck_any _ D c hb (by omega) hc0 hc1 _ W0R).mono ?_
      rw [Hk.out]
      rintro e w1 ⟨rfl, g1⟩
      have W1B := W0B.ext g1
      have W1Z := W0Z.ext g1
      have pb0 := W1B.cell 0 _ rfl
      have pb1 := W1B.cell 1 _ rfl
      have pz0 := W1Z.cell 0 _ rfl
      have pz1 := W1Z.cell 1 _ rfl
      have py0 := W1Z.frozen 0
      have py1 := W1Z.frozen 1
      go_wp2_with fail
      refine bodyPost_ret (v := .tuple #[.agg #[.slice none 0 0, .int .i64 0], .int .i64 2]) (by simp [results, Try.results20, go_sem, pz0, pz1]) rfl ?_
      refine ⟨none, 0, rfl, Rd8.nil _, Fresh.nil _, ?_⟩
      exact ((Chg.of_ext [] (W0E.trans g1)).setCell (Or.inr (by simp)) _).setCell (Or.inr (by simp)) _ |>.ext

end Go.Proofs.Ytfnlekehcaehkaa
