/- The program's Join, the errors. -/
import Derived.Test.YtfnlekehcaehkaaBp
namespace Go.Proofs.Ytfnlekehcaehkaa
open Go.RowKit
set_option linter.unusedVariables false
attribute [local go_sem ↓] Go.wp_at_zero Go.wp_at_succ

/-- What Join leaves. -/
def joF (A : List Int) (x : Int) (D : List Int) (y : Int) : Int × List Int × Nat :=
  if chkb A x ≠ 0 then (chkb A x, [], 0) else if chkb D y ≠ 0 then (chkb D y, [], 0) else if 524288 < x + y then (5, [], 0)
  else (0, pshs A x.toNat (cut D 0 y.toNat), x.toNat + y.toNat)

set_option maxHeartbeats 2000000 in
theorem join_bad (u v : Value) (A D : List Int) (x y : Int) (ha : Bytes A) (hb : Bytes D) (hla : A.length ≤ 60000) (hl : D.length ≤ 60000) (hx0 : -9223372036854775808 ≤ x) (hx1 : x ≤ 9223372036854775807) (hy0 : -9223372036854775808 ≤ y) (hy1 : y ≤ 9223372036854775807) (w : World) (hA : Rd8 w u A) (h : Rd8 w v D) (hbad : chkb A x ≠ 0 ∨ chkb D y ≠ 0 ∨ 524288 < x + y) :
    Calls Try.prog 18 #[.agg #[u, .int .i64 x], .agg #[v, .int .i64 y]] w (BitsPost w (joF A x D y)) := by
  obtain ⟨e, X, n, hJ⟩ : ∃ e X n, joF A x D y = (e, X, n) := ⟨_, _, _, rfl⟩
  obtain ⟨ka, hka⟩ : ∃ k, chkb A x = k := ⟨_, rfl⟩
  obtain ⟨kb, hkb⟩ : ∃ k, chkb D y = k := ⟨_, rfl⟩
  have HJ := hidden hJ
  have Hka := hidden hka
  have Hkb := hidden hkb
  have Hbad := hidden hbad
  rw [hJ]
  clear hJ hka hkb hbad
  obtain ⟨aa, capa, rfl, qa1, qa2, qa3⟩ := Rd.shape hA
  obtain ⟨ad, cap, rfl, q1, q2, q3⟩ := Rd.shape h
  have PA : Blk (((w.alloc (.cells #[.slice aa A.length capa, .int .i64 x] 24)).alloc (.cells #[.slice ad D.length cap, .int .i64 y] 24)).alloc (.cells #[.slice none 0 0, .int .i64 0] 24)) w.heap.size 24 [.slice aa A.length capa, .int .i64 x] := ((Blk.new w [.slice aa A.length capa, .int .i64 x] _).alloc _).alloc _
  have PB : Blk (((w.alloc (.cells #[.slice aa A.length capa, .int .i64 x] 24)).alloc (.cells #[.slice ad D.length cap, .int .i64 y] 24)).alloc (.cells #[.slice none 0 0, .int .i64 0] 24)) (w.heap.size + 1) 24 [.slice ad D.length cap, .int .i64 y] := (Blk.newAt (w.alloc (.cells #[.slice aa A.length capa, .int .i64 x] 24)) [.slice ad D.length cap, .int .i64 y] 24 (w.heap.size + 1) (by simp)).alloc _
  have PZ : Blk (((w.alloc (.cells #[.slice aa A.length capa, .int .i64 x] 24)).alloc (.cells #[.slice ad D.length cap, .int .i64 y] 24)).alloc (.cells #[.slice none 0 0, .int .i64 0] 24)) (w.heap.size + 1 + 1) 24 [.slice none 0 0, .int .i64 0] := Blk.newAt ((w.alloc (.cells #[.slice aa A.length capa, .int .i64 x] 24)).alloc (.cells #[.slice ad D.length cap, .int .i64 y] 24)) [.slice none 0 0, .int .i64 0] 24 (w.heap.size + 1 + 1) (by simp)
  have PQ : Blk ((((w.alloc (.cells #[.slice aa A.length capa, .int .i64 x] 24)).alloc (.cells #[.slice ad D.length cap, .int .i64 y] 24)).alloc (.cells #[.slice none 0 0, .int .i64 0] 24)).alloc (.cells #[.slice aa A.length capa, .int .i64 x, .slice ad D.length cap, .int .i64 y] 24)) (w.heap.size + 1 + 1 + 1) 24 [.slice aa A.length capa, .int .i64 x, .slice ad D.length cap, .int .i64 y] := Blk.newAt (((w.alloc (.cells #[.slice aa A.length capa, .int .i64 x] 24)).alloc (.cells #[.slice ad D.length cap, .int .i64 y] 24)).alloc (.cells #[.slice none 0 0, .int .i64 0] 24)) [.slice aa A.length capa, .int .i64 x, .slice ad D.length cap, .int .i64 y] 24 (w.heap.size + 1 + 1 + 1) (by simp)
  have E0 : Ext w (((w.alloc (.cells #[.slice aa A.length capa, .int .i64 x] 24)).alloc (.cells #[.slice ad D.length cap, .int .i64 y] 24)).alloc (.cells #[.slice none 0 0, .int .i64 0] 24)) := (((Ext.refl w).alloc _).alloc _).alloc _
  have p0 := PA.cell 0 _ rfl
  have p1 := PA.cell 1 _ rfl
  have p2 := PB.cell 0 _ rfl
  have p3 := PB.cell 1 _ rfl
  go_enter Try.func18, Try.ntmps18
  go_wp2_with fail
  go_loopw [16] (fun i wr => Hid (Ext w wr ∧ Blk wr w.heap.size 24 [.slice aa A.length capa, .int .i64 x] ∧ Blk wr (w.heap.size + 1) 24 [.slice ad D.length cap, .int .i64 y] ∧ Blk wr (w.heap.size + 1 + 1) 24 [.slice none 0 0, .int .i64 0] ∧ Blk wr (w.heap.size + 1 + 1 + 1) 24 [.slice aa A.length capa, .int .i64 x, .slice ad D.length cap, .int .i64 y]) ∧ (i = .int .i64 0 ∨ (i = .int .i64 1 ∧ Hid (ka = 0)) ∨ (i = .int .i64 2 ∧ Hid (ka = 0 ∧ kb = 0)))) (fun i _ => (2 - intOf i).toNat)
  case atStart => exact ⟨hidden ⟨E0.alloc _, PA.alloc _, PB.alloc _, PZ.alloc _, PQ⟩, Or.inl rfl⟩
  case round =>
    obtain ⟨hh, hrel⟩ := hrel
    obtain ⟨hE, hPA, hPB, hPZ, hQ⟩ := hh.out
    clear hh p0 p1 p2 p3
    rcases hrel with rfl | ⟨rfl, h0⟩ | ⟨rfl, h0⟩
    · have c0 := hQ.cell 0 _ rfl
      have c1 := hQ.cell 1 _ rfl
      by_cases hz : ka = 0
      · have hzb : (ka != 0) = false := by simp [hz]
        have Hz := hidden hz
        clear hz
        go_wp2_with fail
        refine (check_any _ A x ha (by omega) hx0 hx1 _ (Rd.alloc (Rd.ext hA hE) _)).mono ?_
        rw [Hka.out]
        rintro e5 w5 ⟨rfl, g5⟩
        have g6 := ((Ext.refl wr).alloc _).trans g5
        go_wp2_with fail
        have hz := Hz.out
        exact ⟨⟨hidden ⟨hE.trans g6, hPA.ext g6, hPB.ext g6, hPZ.ext g6, hQ.ext g6⟩, Or.inr (Or.inl ⟨rfl, hidden hz⟩)⟩, by simp [intOf]⟩
      · have hzb : (ka != 0) = true := by simp [hz]
        have Hz := hidden hz
        clear hz
        go_wp2_with fail
        refine (check_any _ A x ha (by omega) hx0 hx1 _ (Rd.alloc (Rd.ext hA hE) _)).mono ?_
        rw [Hka.out]
        rintro e5 w5 ⟨rfl, g5⟩
        have g6 := ((Ext.refl wr).alloc _).trans g5
        have hz := Hz.out
        clear hz
        have Z5 := hPZ.ext g6
        have hEE := Chg.of_ext [] (hE.trans g6)
        have pz0 := Z5.cell 0 _ rfl
        have pz1 := Z5.cell 1 _ rfl
        have py0 := Z5.frozen 0
        have py1 := Z5.frozen 1
        go_wp2_with fail
        refine bodyPost_ret (v := .tuple #[.agg #[.slice none 0 0, .int .i64 0], .int .i64 ka]) (by simp [results, Try.results18, go_sem, pz0, pz1]) rfl ?_
        have hF : (e, X, n) = (ka, ([] : List Int), 0) := by rw [← HJ.out]; unfold joF; have hz := Hz.out; rw [if_pos (by rw [Hka.out]; exact hz), Hka.out]
        rw [hF]
        refine ⟨none, 0, rfl, Rd8.nil _, Fresh.nil _, ?_⟩
        exact (hEE.setCell (Or.inr (show w.heap.size ≤ w.heap.size + 1 + 1 by omega)) _).setCell (Or.inr (show w.heap.size ≤ w.heap.size + 1 + 1 by omega)) _ |>.ext
    · have c0 := hQ.cell 2 _ rfl
      have c1 := hQ.cell 3 _ rfl
      by_cases hz : kb = 0
      · have hzb : (kb != 0) = false := by simp [hz]
        have Hz := hidden hz
        clear hz
        go_wp2_with fail
        refine (check_any _ D y hb (by omega) hy0 hy1 _ (Rd.alloc (Rd.ext h hE) _)).mono ?_
        rw [Hkb.out]
        rintro e5 w5 ⟨rfl, g5⟩
        have g6 := ((Ext.refl wr).alloc _).trans g5
        go_wp2_with fail
        have hz := Hz.out
        exact ⟨⟨hidden ⟨hE.trans g6, hPA.ext g6, hPB.ext g6, hPZ.ext g6, hQ.ext g6⟩, Or.inr (Or.inr ⟨rfl, hidden ⟨h0.out, hz⟩⟩)⟩, by simp [intOf]⟩
      · have hzb : (kb != 0) = true := by simp [hz]
        have Hz := hidden hz
        clear hz
        go_wp2_with fail
        refine (check_any _ D y hb (by omega) hy0 hy1 _ (Rd.alloc (Rd.ext h hE) _)).mono ?_
        rw [Hkb.out]
        rintro e5 w5 ⟨rfl, g5⟩
        have g6 := ((Ext.refl wr).alloc _).trans g5
        have hz := Hz.out
        clear hz
        have Z5 := hPZ.ext g6
        have hEE := Chg.of_ext [] (hE.trans g6)
        have pz0 := Z5.cell 0 _ rfl
        have pz1 := Z5.cell 1 _ rfl
        have py0 := Z5.frozen 0
        have py1 := Z5.frozen 1
        go_wp2_with fail
        refine bodyPost_ret (v := .tuple #[.agg #[.slice none 0 0, .int .i64 0], .int .i64 kb]) (by simp [results, Try.results18, go_sem, pz0, pz1]) rfl ?_
        have hF : (e, X, n) = (kb, ([] : List Int), 0) := by rw [← HJ.out]; unfold joF; have hz := Hz.out; rw [if_neg (by rw [Hka.out, h0.out]; simp), if_pos (by rw [Hkb.out]; exact hz), Hkb.out]
        rw [hF]
        refine ⟨none, 0, rfl, Rd8.nil _, Fresh.nil _, ?_⟩
        exact (hEE.setCell (Or.inr (show w.heap.size ≤ w.heap.size + 1 + 1 by omega)) _).setCell (Or.inr (show w.heap.size ≤ w.heap.size + 1 + 1 by omega)) _ |>.ext
    · have c0 := hPA.cell 1 _ rfl
      have c1 := hPB.cell 1 _ rfl
      have hsum : 524288 < x + y := by
        rcases Hbad.out with h1 | h1 | h1
        · rw [Hka.out] at h1; exact absurd h0.out.1 h1
        · rw [Hkb.out] at h1; exact absurd h0.out.2 h1
        · exact h1
      have hxx := (chkb_wf ha (Hka.out.trans h0.out.1))
      have hyy := (chkb_wf hb (Hkb.out.trans h0.out.2))
      have hx2 : x ≤ 524288 := hxx.2.1
      have hy2 : y ≤ 524288 := hyy.2.1
      have hx3 : 0 ≤ x := hxx.1
      have hy3 : 0 ≤ y := hyy.1
      clear hxx hyy
      have hEE := Chg.of_ext [] hE
      have pz0 := hPZ.cell 0 _ rfl
      have pz1 := hPZ.cell 1 _ rfl
      have py0 := hPZ.frozen 0
      have py1 := hPZ.frozen 1
      go_wp2_with fail
      refine bodyPost_ret (v := .tuple #[.agg #[.slice none 0 0, .int .i64 0], .int .i64 5]) (by simp [results, Try.results18, go_sem, pz0, pz1]) rfl ?_
      have hF : (e, X, n) = (5, ([] : List Int), 0) := by rw [← HJ.out]; unfold joF; rw [if_neg (by rw [Hka.out, h0.out.1]; simp), if_neg (by rw [Hkb.out, h0.out.2]; simp), if_pos hsum]
      rw [hF]
      refine ⟨none, 0, rfl, Rd8.nil _, Fresh.nil _, ?_⟩
      exact (hEE.setCell (Or.inr (show w.heap.size ≤ w.heap.size + 1 + 1 by omega)) _).setCell (Or.inr (show w.heap.size ≤ w.heap.size + 1 + 1 by omega)) _ |>.ext

end Go.Proofs.Ytfnlekehcaehkaa
