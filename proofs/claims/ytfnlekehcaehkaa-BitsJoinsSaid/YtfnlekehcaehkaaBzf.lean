/- The reference's Join. -/
import Derived.Test.YtfnlekehcaehkaaBze
import Derived.Test.YtfnlekehcaehkaaBzd
namespace Go.Proofs.Ytfnlekehcaehkaa
open Go.RowKit
set_option linter.unusedVariables false
attribute [local go_sem ↓] Go.wp_at_zero Go.wp_at_succ

set_option maxHeartbeats 2000000 in
theorem rjoin_bad (u v : Value) (A D : List Int) (x y : Int) (ha : Bytes A) (hb : Bytes D) (hla : A.length ≤ 60000) (hl : D.length ≤ 60000) (hx0 : -9223372036854775808 ≤ x) (hx1 : x ≤ 9223372036854775807) (hy0 : -9223372036854775808 ≤ y) (hy1 : y ≤ 9223372036854775807) (w : World) (hA : Rd8 w u A) (h : Rd8 w v D) (hbad : chkb A x ≠ 0 ∨ chkb D y ≠ 0 ∨ 524288 < x + y) :
    Calls Try.prog 19 #[.agg #[u, .int .i64 x], .agg #[v, .int .i64 y]] w (BitsPost w (joF A x D y)) := by
  obtain ⟨e, X, n, hJ⟩ : ∃ e X n, joF A x D y = (e, X, n) := ⟨_, _, _, rfl⟩
  obtain ⟨ka, hka⟩ : ∃ k, chkb A x = k := ⟨_, rfl⟩
  obtain ⟨kb, hkb⟩ : ∃ k, chkb D y = k := ⟨_, rfl⟩
  have HJ := hidden hJ
  have Hka := hidden hka
  have Hkb := hidden hkb
  have Hbad := hidden hbad
  rw [hJ]
  clear hJ hka hkb hbad
  obtain ⟨aa, capa, rfl, qa1, qa2, qa3⟩ := Rd.shape hA
  obtain ⟨ad, cap, rfl, q1, q2, q3⟩ := Rd.shape h
  have PA : Blk (((w.alloc (.cells #[.slice aa A.length capa, .int .i64 x] 24)).alloc (.cells #[.slice ad D.length cap, .int .i64 y] 24)).alloc (.cells #[.slice none 0 0, .int .i64 0] 24)) w.heap.size 24 [.slice aa A.length capa, .int .i64 x] := ((Blk.new w [.slice aa A.length capa, .int .i64 x] _).alloc _).alloc _
  have PB : Blk (((w.alloc (.cells #[.slice aa A.length capa, .int .i64 x] 24)).alloc (.cells #[.slice ad D.length cap, .int .i64 y] 24)).alloc (.cells #[.slice none 0 0, .int .i64 0] 24)) (w.heap.size + 1) 24 [.slice ad D.length cap, .int .i64 y] := (Blk.newAt (w.alloc (.cells #[.slice aa A.length capa, .int .i64 x] 24)) [.slice ad D.length cap, .int .i64 y] 24 (w.heap.size + 1) (by simp)).alloc _
  have PZ : Blk (((w.alloc (.cells #[.slice aa A.length capa, .int .i64 x] 24)).alloc (.cells #[.slice ad D.length cap, .int .i64 y] 24)).alloc (.cells #[.slice none 0 0, .int .i64 0] 24)) (w.heap.size + 1 + 1) 24 [.slice none 0 0, .int .i64 0] := Blk.newAt ((w.alloc (.cells #[.slice aa A.length capa, .int .i64 x] 24)).alloc (.cells #[.slice ad D.length cap, .int .i64 y] 24)) [.slice none 0 0, .int .i64 0] 24 (w.heap.size + 1 + 1) (by simp)
  have E0 : Ext w (((w.alloc (.cells #[.slice aa A.length capa, .int .i64 x] 24)).alloc (.cells #[.slice ad D.length cap, .int .i64 y] 24)).alloc (.cells #[.slice none 0 0, .int .i64 0] 24)) := (((Ext.refl w).alloc _).alloc _).alloc _
  have p0 := PA.cell 0 _ rfl
  have p1 := PA.cell 1 _ rfl
  have p2 := PB.cell 0 _ rfl
  have p3 := PB.cell 1 _ rfl
  go_enter Try.func19, Try.ntmps19
  by_cases hz : ka = 0
  · have hzb : (ka != 0) = false := by simp [hz]
    have Hz := hidden hz
    clear hz
    go_wp2_with fail
    refine (rcheck_any _ A x ha (by omega) hx0 hx1 _ (Rd.ext hA E0)).mono ?_
    rw [Hka.out]
    rintro e1 w1 ⟨rfl, g1⟩
    have E1 := E0.trans g1
    have b0 := (PA.ext g1).cell 0 _ rfl
    have b1 := (PA.ext g1).cell 1 _ rfl
    have b2 := (PB.ext g1).cell 0 _ rfl
    have b3 := (PB.ext g1).cell 1 _ rfl
    clear p0 p1 p2 p3
    by_cases hz2 : kb = 0
    · have hzb2 : (kb != 0) = false := by simp [hz2]
      have Hz2 := hidden hz2
      clear hz2
      have hsum : 524288 < x + y := by
        rcases Hbad.out with h1 | h1 | h1
        · rw [Hka.out] at h1; exact absurd Hz.out h1
        · rw [Hkb.out] at h1; exact absurd Hz2.out h1
        · exact h1
      have hxx := (chkb_wf ha (Hka.out.trans Hz.out))
      have hyy := (chkb_wf hb (Hkb.out.trans Hz2.out))
      have hx2 : x ≤ 524288 := hxx.2.1
      have hy2 : y ≤ 524288 := hyy.2.1
      have hx3 : 0 ≤ x := hxx.1
      have hy3 : 0 ≤ y := hyy.1
      clear hxx hyy
      go_wp2_with fail
      refine (rcheck_any _ D y hb (by omega) hy0 hy1 _ (Rd.ext h E1)).mono ?_
      rw [Hkb.out]
      rintro e2 w2 ⟨rfl, g2⟩
      have E2 := E1.trans g2
      have PA2 := (PA.ext g1).ext g2
      have PB2 := (PB.ext g1).ext g2
      have PZ2 := (PZ.ext g1).ext g2
      have c0 := PA2.cell 0 _ rfl
      have c1 := PA2.cell 1 _ rfl
      have c2 := PB2.cell 0 _ rfl
      have c3 := PB2.cell 1 _ rfl
      clear b0 b1 b2 b3
      have pz0 := PZ2.cell 0 _ rfl
      have pz1 := PZ2.cell 1 _ rfl
      have py0 := PZ2.frozen 0
      have py1 := PZ2.frozen 1
      go_wp2_with fail
      refine bodyPost_ret (v := .tuple #[.agg #[.slice none 0 0, .int .i64 0], .int .i64 5]) (by simp [results, Try.results19, go_sem, pz0, pz1]) rfl ?_
      have hF : (e, X, n) = (5, ([] : List Int), 0) := by rw [← HJ.out]; unfold joF; rw [if_neg (by rw [Hka.out, Hz.out]; simp), if_neg (by rw [Hkb.out, Hz2.out]; simp), if_pos hsum]
      rw [hF]
      refine ⟨none, 0, rfl, Rd8.nil _, Fresh.nil _, ?_⟩
      exact ((Chg.of_ext [] E2).setCell (Or.inr (show w.heap.size ≤ w.heap.size + 1 + 1 by omega)) _).setCell (Or.inr (show w.heap.size ≤ w.heap.size + 1 + 1 by omega)) _ |>.ext
    · have hzb2 : (kb != 0) = true := by simp [hz2]
      have Hz2 := hidden hz2
      clear hz2
      go_wp2_with fail
      refine (rcheck_any _ D y hb (by omega) hy0 hy1 _ (Rd.ext h E1)).mono ?_
      rw [Hkb.out]
      rintro e2 w2 ⟨rfl, g2⟩
      have E2 := E1.trans g2
      have PA2 := (PA.ext g1).ext g2
      have PB2 := (PB.ext g1).ext g2
      have PZ2 := (PZ.ext g1).ext g2
      have c0 := PA2.cell 0 _ rfl
      have c1 := PA2.cell 1 _ rfl
      have c2 := PB2.cell 0 _ rfl
      have c3 := PB2.cell 1 _ rfl
      clear b0 b1 b2 b3
      have pz0 := PZ2.cell 0 _ rfl
      have pz1 := PZ2.cell 1 _ rfl
      have py0 := PZ2.frozen 0
      have py1 := PZ2.frozen 1
      go_wp2_with fail
      refine bodyPost_ret (v := .tuple #[.agg #[.slice none 0 0, .int .i64 0], .int .i64 kb]) (by simp [results, Try.results19, go_sem, pz0, pz1]) rfl ?_
      have hF : (e, X, n) = (kb, ([] : List Int), 0) := by rw [← HJ.out]; unfold joF; rw [if_neg (by rw [Hka.out, Hz.out]; simp), if_pos (by rw [Hkb.out]; exact Hz2.out), Hkb.out]
      rw [hF]
      refine ⟨none, 0, rfl, Rd8.nil _, Fresh.nil _, ?_⟩
      exact ((Chg.of_ext [] E2).setCell (Or.inr (show w.heap.size ≤ w.heap.size + 1 + 1 by omega)) _).setCell (Or.inr (show w.heap.size ≤ w.heap.size + 1 + 1 by omega)) _ |>.ext
  · have hzb : (ka != 0) = true := by simp [hz]
    have Hz := hidden hz
    clear hz
    go_wp2_with fail
    refine (rcheck_any _ A x ha (by omega) hx0 hx1 _ (Rd.ext hA E0)).mono ?_
    rw [Hka.out]
    rintro e1 w1 ⟨rfl, g1⟩
    have E1 := E0.trans g1
    have b0 := (PA.ext g1).cell 0 _ rfl
    have b1 := (PA.ext g1).cell 1 _ rfl
    have b2 := (PB.ext g1).cell 0 _ rfl
    have b3 := (PB.ext g1).cell 1 _ rfl
    clear p0 p1 p2 p3
    have PZ1 := PZ.ext g1
    have pz0 := PZ1.cell 0 _ rfl
    have pz1 := PZ1.cell 1 _ rfl
    have py0 := PZ1.frozen 0
    have py1 := PZ1.frozen 1
    go_wp2_with fail
    refine bodyPost_ret (v := .tuple #[.agg #[.slice none 0 0, .int .i64 0], .int .i64 ka]) (by simp [results, Try.results19, go_sem, pz0, pz1]) rfl ?_
    have hF : (e, X, n) = (ka, ([] : List Int), 0) := by rw [← HJ.out]; unfold joF; rw [if_pos (by rw [Hka.out]; exact Hz.out), Hka.out]
    rw [hF]
    refine ⟨none, 0, rfl, Rd8.nil _, Fresh.nil _, ?_⟩
    exact ((Chg.of_ext [] E1).setCell (Or.inr (show w.heap.size ≤ w.heap.size + 1 + 1 by omega)) _).setCell (Or.inr (show w.heap.size ≤ w.heap.size + 1 + 1 by omega)) _ |>.ext

set_option maxHeartbeats 4000000 in
theorem rjoin_good (u v : Value) (A D : List Int) (ca cb : Nat) (ha : Bytes A) (hb : Bytes D) (hla : A.length ≤ 60000) (hl : D.length ≤ 60000) (hwa : WF A ca) (hwf : WF D cb) (hca : ca ≤ 524288) (hcb : cb ≤ 524288) (hs : ca + cb ≤ 524288) (w : World) (hA : Rd8 w u A) (h : Rd8 w v D) :
    Calls Try.prog 19 #[.agg #[u, .int .i64 (ca : Int)], .agg #[v, .int .i64 (cb : Int)]] w (BitsPost w (0, pshs A ca (cut D 0 cb), ca + cb)) := by
  have Hka := hidden (wf_chkb hwa hca)
  have Hkb := hidden (wf_chkb hwf hcb)
  have hlen := hwf.len
  have hy8 := hidden (show cb ≤ 8 * D.length by omega)
  clear hlen
  obtain ⟨x, hx⟩ : ∃ x, (ca : Int) = x := ⟨_, rfl⟩
  obtain ⟨y, hy⟩ : ∃ y, (cb : Int) = y := ⟨_, rfl⟩
  rw [hx] at Hka
  rw [hy] at Hkb
  rw [hx, hy]
  have hx0 : 0 ≤ x := by omega
  have hx1 : x ≤ 524288 := by omega
  have hy0 : 0 ≤ y := by omega
  have hy1 : y ≤ 524288 := by omega
  have hxy : ¬ 524288 < x + y := by omega
  have Hn := hidden (show (ca : Int) = x ∧ (cb : Int) = y ∧ ca + cb ≤ 524288 from ⟨hx, hy, hs⟩)
  have hxc : (ca : Int) = x := hx
  clear hx hy hca hcb hs
  have hxc := hidden hxc
  have hwf := hidden hwf
  have hwa := hidden hwa
  obtain ⟨aa, capa, rfl, qa1, qa2, qa3⟩ := Rd.shape hA
  obtain ⟨ad, cap, rfl, q1, q2, q3⟩ := Rd.shape h
  have PA : Blk (((w.alloc (.cells #[.slice aa A.length capa, .int .i64 x] 24)).alloc (.cells #[.slice ad D.length cap, .int .i64 y] 24)).alloc (.cells #[.slice none 0 0, .int .i64 0] 24)) w.heap.size 24 [.slice aa A.length capa, .int .i64 x] := ((Blk.new w [.slice aa A.length capa, .int .i64 x] _).alloc _).alloc _
  have PB : Blk (((w.alloc (.cells #[.slice aa A.length capa, .int .i64 x] 24)).alloc (.cells #[.slice ad D.length cap, .int .i64 y] 24)).alloc (.cells #[.slice none 0 0, .int .i64 0] 24)) (w.heap.size + 1) 24 [.slice ad D.length cap, .int .i64 y] := (Blk.newAt (w.alloc (.cells #[.slice aa A.length capa, .int .i64 x] 24)) [.slice ad D.length cap, .int .i64 y] 24 (w.heap.size + 1) (by simp)).alloc _
  have PZ : Blk (((w.alloc (.cells #[.slice aa A.length capa, .int .i64 x] 24)).alloc (.cells #[.slice ad D.length cap, .int .i64 y] 24)).alloc (.cells #[.slice none 0 0, .int .i64 0] 24)) (w.heap.size + 1 + 1) 24 [.slice none 0 0, .int .i64 0] := Blk.newAt ((w.alloc (.cells #[.slice aa A.length capa, .int .i64 x] 24)).alloc (.cells #[.slice ad D.length cap, .int .i64 y] 24)) [.slice none 0 0, .int .i64 0] 24 (w.heap.size + 1 + 1) (by simp)
  have E0 : Ext w (((w.alloc (.cells #[.slice aa A.length capa, .int .i64 x] 24)).alloc (.cells #[.slice ad D.length cap, .int .i64 y] 24)).alloc (.cells #[.slice none 0 0, .int .i64 0] 24)) := (((Ext.refl w).alloc _).alloc _).alloc _
  have p0 := PA.cell 0 _ rfl
  have p1 := PA.cell 1 _ rfl
  have p2 := PB.cell 0 _ rfl
  have p3 := PB.cell 1 _ rfl
  go_enter Try.func19, Try.ntmps19
  go_wp2_with fail
  refine (rcheck_any _ A x ha (by omega) (by omega) (by omega) _ (Rd.ext hA E0)).mono ?_
  rw [Hka.out]
  rintro e1 w1 ⟨rfl, g1⟩
  have E1 := E0.trans g1
  have b0 := (PA.ext g1).cell 0 _ rfl
  have b1 := (PA.ext g1).cell 1 _ rfl
  have b2 := (PB.ext g1).cell 0 _ rfl
  have b3 := (PB.ext g1).cell 1 _ rfl
  clear p0 p1 p2 p3
  go_wp2_with fail
  refine (rcheck_any _ D y hb (by omega) (by omega) (by omega) _ (Rd.ext h E1)).mono ?_
  rw [Hkb.out]
  rintro e2 w2 ⟨rfl, g2⟩
  have E2 := E1.trans g2
  have PA2 := (PA.ext g1).ext g2
  have PB2 := (PB.ext g1).ext g2
  have PZ2 := (PZ.ext g1).ext g2
  have c0 := PA2.cell 0 _ rfl
  have c1 := PA2.cell 1 _ rfl
  have c2 := PB2.cell 0 _ rfl
  have c3 := PB2.cell 1 _ rfl
  clear b0 b1 b2 b3
  go_wp2_with fail
  refine (copy_any _ A x (by omega) _ (Rd.ext hA E2)).mono ?_
  rintro e3 w3 ⟨v3, rfl, hO3, g3⟩
  obtain ⟨x3, k3, rfl, s1, s2, s3⟩ := Rd.shape hO3.rd
  have hs0 : w.heap.size + 1 + 1 + 1 ≤ w2.heap.size := by have := (g1.trans g2).size; simpa using this
  have hs3 := g3.size
  have E3 := E2.trans g3
  have PA3 := PA2.ext g3
  have PB3 := PB2.ext g3
  have PZ3 := PZ2.ext g3
  have hO4 := World.ownsRow.alloc hO3 (.cells #[.slice x3 A.length k3, .int .i64 x] 24)
  have hB4 := Blk.new w3 [.slice x3 A.length k3, .int .i64 x] 24
  obtain ⟨q, hq⟩ : ∃ q, w3.heap.size = q := ⟨_, rfl⟩
  have hq' := hidden hq
  rw [hq] at hB4 hs3
  have hqlt : w.heap.size + 1 + 1 + 1 ≤ q := by omega
  clear c0 c1 c2 c3
  have d0 := PB3.cell 0 _ rfl
  have d1 := PB3.cell 1 _ rfl
  go_wp2_with fail
  go_loopw [9] (fun i wr => ∃ (k j : Nat) (v' : Value), i = .int .i64 (k : Int) ∧ (k : Int) ≤ y ∧ Hid (k = 0 + j) ∧ Hid (Blk wr q 24 [v', .int .i64 ((ca + j : Nat) : Int)]) ∧ Hid (Own8 wr w2.heap.size v' (pshs A ca (cut D 0 j))) ∧ Hid (Blk wr w.heap.size 24 [.slice aa A.length capa, .int .i64 x]) ∧ Hid (Blk wr (w.heap.size + 1) 24 [.slice ad D.length cap, .int .i64 y]) ∧ Hid (Blk wr (w.heap.size + 1 + 1) 24 [.slice none 0 0, .int .i64 0]) ∧ Hid (Ext w wr) ∧ Hid (q < wr.heap.size)) (fun i _ => (y - intOf i).toNat)
  case atStart => exact ⟨0, 0, _, rfl, by omega, hidden rfl, hidden (by rw [Nat.add_zero, hxc.out]; exact hB4), hidden hO4, hidden (PA3.alloc _), hidden (PB3.alloc _), hidden (PZ3.alloc _), hidden (E3.alloc _), hidden (by have := hq'.out; simp; omega)⟩
  case round =>
    obtain ⟨k, j, v', rfl, hky, Kj, KB, KO, Ka, Kb, KZ, KE, KQ⟩ := hrel
    obtain ⟨m, hm⟩ : ∃ m, ca + j = m := ⟨_, rfl⟩
    have hwk : WF (pshs A ca (cut D 0 j)) m := by
      have h := WF.pshs (D := A) (c := ca) hwa.out (cut_01 D 0 j)
      rw [cut_len, hm] at h
      exact h
    rw [hm] at KB
    have Hm := hidden hm
    have hmb : m ≤ 1100000 := by have h1 := Kj.out; have h2 := Hn.out; omega
    have hmb : m ≤ 590000 := by have h1 := Kj.out; have h2 := Hn.out; omega
    clear hm
    obtain ⟨X, hX⟩ : ∃ X, pshs A ca (cut D 0 j) = X := ⟨_, rfl⟩
    rw [hX] at KO hwk
    have HX := hidden hX
    clear hX
    have hwk := hidden hwk
    obtain ⟨a4, k4, rfl, r1, r2, r3⟩ := Rd.shape KO.out.rd
    have hqo := hidden (own_ne_blk KO.out KB.out (by decide))
    have hzo := hidden (own_ne_blk KO.out KZ.out (by decide))
    have hqs := KQ.out
    have d0 := KB.out.drew.cell 0 _ rfl
    have d1 := KB.out.drew.cell 1 _ rfl
    have e0' := KB.out.cell 0 _ rfl
    have e1' := KB.out.cell 1 _ rfl
    have hpoa := hidden (own_ne_blk KO.out Ka.out (by decide))
    have ca0 := Ka.out.drew.cell 0 _ rfl
    have ca1 := Ka.out.drew.cell 1 _ rfl
    have ua0 := Ka.out.cell 0 _ rfl
    have ua1 := Ka.out.cell 1 _ rfl
    have hpob := hidden (own_ne_blk KO.out Kb.out (by decide))
    have cb0 := Kb.out.drew.cell 0 _ rfl
    have cb1 := Kb.out.drew.cell 1 _ rfl
    have ub0 := Kb.out.cell 0 _ rfl
    have ub1 := Kb.out.cell 1 _ rfl
    by_cases hlt : (k : Int) < y
    · obtain ⟨z, hz⟩ : ∃ z, gb D k = z := ⟨_, rfl⟩
      have hz01 := gb_01 D k
      rw [hz] at hz01
      have Hz := hidden hz
      have hz01 := hidden hz01
      have hin : k / 8 < D.length := by have h1 := Hn.out; have h2 := hy8.out; omega
      have hin := hidden hin
      have hk6 : k ≤ 600000 := by have h1 := Hn.out; omega
      clear hz
      go_wp2_with fail
      go_region_with (first
        | (go_at_call 29; refine (get_any _ _ D k hb hk6 hin.out _ (Rd.drew (Rd.ext h KE.out))).mono ?_; rw [Hz.out]; rintro e5 w5 ⟨rfl, g5⟩; have B5 := (KB.out.drew).ext g5; have j0 := B5.cell 0 _ rfl; have j1 := B5.cell 1 _ rfl)
        | (go_at_call 34; refine (add_any w2.heap.size m _ X z hz01.out (by omega) _ (by have h1 := g5.size; have h2 : wr.drew.heap.size = wr.heap.size := rfl; omega) (own_ext (World.ownsRow.drew KO.out) g5) hwk.out).mono ?_; rintro e6 w6 ⟨v6, rfl, O6, S6, C6⟩; obtain ⟨a6, k6, rfl, t1, t2, t3⟩ := Rd.shape O6.rd; have B6 := B5.chg C6 (by intro hx; simp at hx; exact hqo.out hx); have i0 := B6.cell 0 _ rfl; have i1 := B6.cell 1 _ rfl; have i2 := B6.frozen 0; have i3 := B6.frozen 1))
      all_goals
        clear d0 d1 j0 j1 e0' e1'
        go_wp2_with fail
        have hqo5 := own_ne_blk O6 B6 (by decide)
        have P6a := ((Ka.out.drew).ext g5).chg C6 (by intro hx; simp at hx; exact hpoa.out hx)
        have P6b := ((Kb.out.drew).ext g5).chg C6 (by intro hx; simp at hx; exact hpob.out hx)
        have Z6 := ((KZ.out.drew).ext g5).chg C6 (by intro hx; simp at hx; exact hzo.out hx)
        have hE5 := (KE.out.drew).trans g5
        have hE6 : Ext w w6 := Below.trans hE5 (Chg.below C6 (fun zz hzz => by have := (own_lt (own_ext (World.ownsRow.drew KO.out) g5) (Option.mem_toList.1 hzz)).1; omega) hE5.size)
        have hwq : w.heap.size ≤ q := by omega
        have hs5 : wr.heap.size ≤ w5.heap.size := g5.size
        have hs6 := C6.size
        obtain ⟨R, hR⟩ : ∃ R, Value.slice a6 (psh X m z).length k6 = R := ⟨_, rfl⟩
        rw [hR] at O6 hqo5 ⊢
        have hC := ((Chg.refl [q] w6).setCell (p := ⟨q, 0, none⟩) (Or.inl (by simp)) R).setCell (p := ⟨q, 1, none⟩) (Or.inl (by simp)) (.int .i64 ((m : Int) + 1))
        have hps : pshs A ca (cut D 0 (j + 1)) = psh X m z := by rw [cut_succ, pshs_snoc, cut_len, HX.out, Hm.out, ← Kj.out, Hz.out]
        refine ⟨⟨k + 1, j + 1, R, by go_num, by omega, hidden (by have := Kj.out; omega), hidden ?_, hidden ?_, hidden ((P6a.set_other (by omega) R).set_other (by omega) _), hidden ((P6b.set_other (by omega) R).set_other (by omega) _), hidden ((Z6.set_other (by omega) R).set_other (by omega) _), hidden ((hE6.setCell (p := ⟨q, 0, none⟩) hwq _).setCell (p := ⟨q, 1, none⟩) hwq _), hidden (by simp; omega)⟩, by simp [intOf]; omega⟩
        · rw [show ((ca + (j + 1) : Nat) : Int) = (m : Int) + 1 by have := Hm.out; omega]
          exact (B6.set 0 R).set 1 _
        · rw [hps]; exact own_chg O6 hC (by intro xx hx; simp at hx; subst hx; exact hqo5)
    · have hkl : (k : Int) = y := by omega
      have hjl : j = cb := by have h1 := Kj.out; have h2 := Hn.out; omega
      have Hjl := hidden hjl
      clear hjl hkl
      have z0 := KZ.out.cell 0 _ rfl
      have z1 := KZ.out.cell 1 _ rfl
      have y0 := KZ.out.frozen 0
      have y1 := KZ.out.frozen 1
      clear d0 d1
      go_wp2_with fail
      have Z4 := (KZ.out.set 0 (.slice a4 X.length k4)).set 1 (.int .i64 (m : Int))
      have e0 := Z4.cell 0 _ rfl
      have e1 := Z4.cell 1 _ rfl
      have hD := ((Chg.refl [(w.heap.size + 1 + 1)] wr).setCell (p := ⟨(w.heap.size + 1 + 1), 0, none⟩) (Or.inl (by simp)) (.slice a4 X.length k4)).setCell (p := ⟨(w.heap.size + 1 + 1), 1, none⟩) (Or.inl (by simp)) (.int .i64 (m : Int))
      have hX := (KE.out.setCell (p := ⟨(w.heap.size + 1 + 1), 0, none⟩) (show w.heap.size ≤ (w.heap.size + 1 + 1) by omega) (.slice a4 X.length k4)).setCell (p := ⟨(w.heap.size + 1 + 1), 1, none⟩) (show w.heap.size ≤ (w.heap.size + 1 + 1) by omega) (.int .i64 (m : Int))
      refine bodyPost_ret (v := .tuple #[.agg #[.slice a4 X.length k4, .int .i64 (m : Int)], .int .i64 0]) (by simp [results, Try.results19, go_sem, e0, e1]) rfl ?_
      have hO4 := own_chg KO.out hD (by intro xx hx; simp at hx; subst hx; exact hzo.out)
      have hXX : pshs A ca (cut D 0 cb) = X := by rw [← HX.out, Hjl.out]
      have hmm : ca + cb = m := by rw [← Hm.out, Hjl.out]
      rw [hXX, hmm]
      exact ⟨a4, k4, rfl, Own8.rd hO4, Fresh.of_own KO.out (by omega), hX⟩

theorem rjoin_any (u v : Value) (A D : List Int) (x y : Int) (ha : Bytes A) (hb : Bytes D) (hla : A.length ≤ 60000) (hl : D.length ≤ 60000) (hx0 : -9223372036854775808 ≤ x) (hx1 : x ≤ 9223372036854775807) (hy0 : -9223372036854775808 ≤ y) (hy1 : y ≤ 9223372036854775807) (w : World) (hA : Rd8 w u A) (h : Rd8 w v D) :
    Calls Try.prog 19 #[.agg #[u, .int .i64 x], .agg #[v, .int .i64 y]] w (BitsPost w (joF A x D y)) := by
  by_cases hbad : chkb A x ≠ 0 ∨ chkb D y ≠ 0 ∨ 524288 < x + y
  · exact rjoin_bad u v A D x y ha hb hla hl hx0 hx1 hy0 hy1 w hA h hbad
  · obtain ⟨k0, k1, hwa⟩ := chkb_wf ha (show chkb A x = 0 by omega)
    obtain ⟨k2, k3, hwf⟩ := chkb_wf hb (show chkb D y = 0 by omega)
    have hE : joF A x D y = (0, pshs A x.toNat (cut D 0 y.toNat), x.toNat + y.toNat) := by unfold joF; rw [if_neg (by omega), if_neg (by omega), if_neg (by omega)]
    rw [hE]
    have := rjoin_good u v A D x.toNat y.toNat ha hb hla hl hwa hwf (by omega) (by omega) (by omega) w hA h
    rw [Int.toNat_of_nonneg k0, Int.toNat_of_nonneg k2] at this
    exact this

end Go.Proofs.Ytfnlekehcaehkaa
