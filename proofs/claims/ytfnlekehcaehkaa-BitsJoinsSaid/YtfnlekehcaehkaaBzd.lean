/- The reference's Slice, the good case and the whole. -/
import Derived.Test.YtfnlekehcaehkaaBzc
import Derived.Deep.RegionHeld3
namespace Go.Proofs.Ytfnlekehcaehkaa
open Go.RowKit
set_option linter.unusedVariables false
attribute [local go_sem ↓] Go.wp_at_zero Go.wp_at_succ

set_option maxHeartbeats 2000000 in
theorem rslice_good (v : Value) (D : List Int) (c a b : Nat) (hb : Bytes D) (hl : D.length ≤ 60000) (hwf : WF D c) (hc : c ≤ 524288) (hab : a ≤ b) (hbc : b ≤ c) (w : World) (h : Rd8 w v D) :
    Calls Try.prog 20 #[.agg #[v, .int .i64 (c : Int)], .int .i64 (a : Int), .int .i64 (b : Int)] w (BitsPost w (0, pshs [] 0 (cut D a (b - a)), b - a)) := by
  have Hk := hidden (wf_chkb hwf hc)
  have hlen := hwf.len
  have hy8 := hidden (show b ≤ 8 * D.length by omega)
  clear hlen
  obtain ⟨x, hx⟩ : ∃ x, (a : Int) = x := ⟨_, rfl⟩
  obtain ⟨y, hy⟩ : ∃ y, (b : Int) = y := ⟨_, rfl⟩
  obtain ⟨C, hC⟩ : ∃ C, (c : Int) = C := ⟨_, rfl⟩
  rw [hC] at Hk
  rw [hx, hy, hC]
  have k1 : ¬ x < 0 := by omega
  have k2 : ¬ y < x := by omega
  have k3 : ¬ C < y := by omega
  have k4 : 0 ≤ C := by omega
  have k5 : C ≤ 524288 := by omega
  have Hn := hidden (show (a : Int) = x ∧ (b : Int) = y ∧ (c : Int) = C ∧ a ≤ b ∧ b ≤ c ∧ c ≤ 524288 from ⟨hx, hy, hC, hab, hbc, hc⟩)
  clear hx hy hC hab hbc hc
  have hwf := hidden hwf
  obtain ⟨ad, cap, rfl, q1, q2, q3⟩ := Rd.shape h
  have W0B : Blk ((w.alloc (.cells #[.slice ad D.length cap, .int .i64 C] 24)).alloc (.cells #[.slice none 0 0, .int .i64 0] 24)) w.heap.size 24 [.slice ad D.length cap, .int .i64 C] := (Blk.new w [.slice ad D.length cap, .int .i64 C] _).alloc _
  have W0Z : Blk ((w.alloc (.cells #[.slice ad D.length cap, .int .i64 C] 24)).alloc (.cells #[.slice none 0 0, .int .i64 0] 24)) (w.heap.size + 1) 24 [.slice none 0 0, .int .i64 0] := by
    have := Blk.new (w.alloc (.cells #[.slice ad D.length cap, .int .i64 C] 24)) [.slice none 0 0, .int .i64 0] 24
    rw [World.size_alloc] at this
    exact this
  have W0R : Rd8 ((w.alloc (.cells #[.slice ad D.length cap, .int .i64 C] 24)).alloc (.cells #[.slice none 0 0, .int .i64 0] 24)) (.slice ad D.length cap) D := Rd.alloc (Rd.alloc h _) _
  have W0E : Ext w ((w.alloc (.cells #[.slice ad D.length cap, .int .i64 C] 24)).alloc (.cells #[.slice none 0 0, .int .i64 0] 24)) := ((Ext.refl w).alloc _).alloc _
  have p0 := W0B.cell 0 _ rfl
  have p1 := W0B.cell 1 _ rfl
  go_enter Try.func20, Try.ntmps20
  go_wp2_with fail
  refine (rcheck_any _ D C hb (by omega) (by omega) (by omega) _ W0R).mono ?_
  rw [Hk.out]
  rintro e w1 ⟨rfl, g1⟩
  have W1B := W0B.ext g1
  have W1Z := W0Z.ext g1
  have pb0 := W1B.cell 0 _ rfl
  have pb1 := W1B.cell 1 _ rfl
  clear p0 p1
  go_wp2_with fail
  have hs1 : w.heap.size + 1 + 1 ≤ w1.heap.size := by have := g1.size; simpa using this
  go_loopw [10] (fun i wr => ∃ (k j : Nat) (v' : Value), i = .int .i64 (k : Int) ∧ (k : Int) ≤ y ∧ Hid (k = a + j) ∧ Hid (Blk wr w1.heap.size 24 [v', .int .i64 ((0 + j : Nat) : Int)]) ∧ Hid (Own8 wr w1.heap.size v' (pshs [] 0 (cut D a j))) ∧ Hid (Blk wr w.heap.size 24 [.slice ad D.length cap, .int .i64 C]) ∧ Hid (Blk wr (w.heap.size + 1) 24 [.slice none 0 0, .int .i64 0]) ∧ Hid (Ext w wr) ∧ Hid (w1.heap.size < wr.heap.size)) (fun i _ => (y - intOf i).toNat)
  case atStart => exact ⟨a, 0, _, by rw [Hn.out.1], by have := Hn.out; omega, hidden (by omega), hidden (Blk.new w1 _ _), hidden (own8_nil _ _), hidden (W1B.alloc _), hidden (W1Z.alloc _), hidden ((W0E.trans g1).alloc _), hidden (by simp)⟩
  case round =>
    obtain ⟨k, j, v', rfl, hky, Kj, KB, KO, Kp, KZ, KE, KQ⟩ := hrel
    obtain ⟨m, hm⟩ : ∃ m, 0 + j = m := ⟨_, rfl⟩
    have hwk : WF (pshs [] 0 (cut D a j)) m := by
      have h := WF.pshs (D := []) (c := 0) WF.nil (cut_01 D a j)
      rw [cut_len, hm] at h
      exact h
    rw [hm] at KB
    have Hm := hidden hm
    have hmb : m ≤ 1100000 := by have h1 := Kj.out; have h2 := Hn.out; omega
    have hmb : m ≤ 590000 := by have h1 := Kj.out; have h2 := Hn.out; omega
    clear hm
    obtain ⟨X, hX⟩ : ∃ X, pshs [] 0 (cut D a j) = X := ⟨_, rfl⟩
    rw [hX] at KO hwk
    have HX := hidden hX
    clear hX
    have hwk := hidden hwk
    obtain ⟨a4, k4, rfl, r1, r2, r3⟩ := Rd.shape KO.out.rd
    have hqo := hidden (own_ne_blk KO.out KB.out (by decide))
    have hzo := hidden (own_ne_blk KO.out KZ.out (by decide))
    have hqs := KQ.out
    have d0 := KB.out.drew.cell 0 _ rfl
    have d1 := KB.out.drew.cell 1 _ rfl
    have e0' := KB.out.cell 0 _ rfl
    have e1' := KB.out.cell 1 _ rfl
    have hpop := hidden (own_ne_blk KO.out Kp.out (by decide))
    have cp0 := Kp.out.drew.cell 0 _ rfl
    have cp1 := Kp.out.drew.cell 1 _ rfl
    have up0 := Kp.out.cell 0 _ rfl
    have up1 := Kp.out.cell 1 _ rfl
    by_cases hlt : (k : Int) < y
    · obtain ⟨z, hz⟩ : ∃ z, gb D k = z := ⟨_, rfl⟩
      have hz01 := gb_01 D k
      rw [hz] at hz01
      have Hz := hidden hz
      have hz01 := hidden hz01
      have hin : k / 8 < D.length := by have h1 := Hn.out; have h2 := hy8.out; omega
      have hin := hidden hin
      have hk6 : k ≤ 600000 := by have h1 := Hn.out; omega
      clear hz
      go_wp2_with fail
      go_region_with (first
        | (go_at_call 29; refine (get_any _ _ D k hb hk6 hin.out _ (Rd.drew (Rd.ext h KE.out))).mono ?_; rw [Hz.out]; rintro e5 w5 ⟨rfl, g5⟩; have B5 := (KB.out.drew).ext g5; have j0 := B5.cell 0 _ rfl; have j1 := B5.cell 1 _ rfl)
        | (go_at_call 34; refine (add_any w1.heap.size m _ X z hz01.out (by omega) _ (by have h1 := g5.size; have h2 : wr.drew.heap.size = wr.heap.size := rfl; omega) (own_ext (World.ownsRow.drew KO.out) g5) hwk.out).mono ?_; rintro e6 w6 ⟨v6, rfl, O6, S6, C6⟩; obtain ⟨a6, k6, rfl, t1, t2, t3⟩ := Rd.shape O6.rd; have B6 := B5.chg C6 (by intro hx; simp at hx; exact hqo.out hx); have i0 := B6.cell 0 _ rfl; have i1 := B6.cell 1 _ rfl; have i2 := B6.frozen 0; have i3 := B6.frozen 1))
      all_goals
        clear d0 d1 j0 j1 e0' e1'
        go_wp2_with fail
        have hqo5 := own_ne_blk O6 B6 (by decide)
        have P6p := ((Kp.out.drew).ext g5).chg C6 (by intro hx; simp at hx; exact hpop.out hx)
        have Z6 := ((KZ.out.drew).ext g5).chg C6 (by intro hx; simp at hx; exact hzo.out hx)
        have hE5 := (KE.out.drew).trans g5
        have hE6 : Ext w w6 := Below.trans hE5 (Chg.below C6 (fun zz hzz => by have := (own_lt (own_ext (World.ownsRow.drew KO.out) g5) (Option.mem_toList.1 hzz)).1; omega) hE5.size)
        have hwq : w.heap.size ≤ w1.heap.size := by omega
        have hs5 : wr.heap.size ≤ w5.heap.size := g5.size
        have hs6 := C6.size
        obtain ⟨R, hR⟩ : ∃ R, Value.slice a6 (psh X m z).length k6 = R := ⟨_, rfl⟩
        rw [hR] at O6 hqo5 ⊢
        have hC := ((Chg.refl [w1.heap.size] w6).setCell (p := ⟨w1.heap.size, 0, none⟩) (Or.inl (by simp)) R).setCell (p := ⟨w1.heap.size, 1, none⟩) (Or.inl (by simp)) (.int .i64 ((m : Int) + 1))
        have hps : pshs [] 0 (cut D a (j + 1)) = psh X m z := by rw [cut_succ, pshs_snoc, cut_len, HX.out, Hm.out, ← Kj.out, Hz.out]
        refine ⟨⟨k + 1, j + 1, R, by go_num, by omega, hidden (by have := Kj.out; omega), hidden ?_, hidden ?_, hidden ((P6p.set_other (by omega) R).set_other (by omega) _), hidden ((Z6.set_other (by omega) R).set_other (by omega) _), hidden ((hE6.setCell (p := ⟨w1.heap.size, 0, none⟩) hwq _).setCell (p := ⟨w1.heap.size, 1, none⟩) hwq _), hidden (by simp; omega)⟩, by simp [intOf]; omega⟩
        · rw [show ((0 + (j + 1) : Nat) : Int) = (m : Int) + 1 by have := Hm.out; omega]
          exact (B6.set 0 R).set 1 _
        · rw [hps]; exact own_chg O6 hC (by intro xx hx; simp at hx; subst hx; exact hqo5)
    · have hkl : (k : Int) = y := by omega
      have hjl : j = b - a := by have h1 := Kj.out; have h2 := Hn.out; omega
      have Hjl := hidden hjl
      clear hjl hkl
      have z0 := KZ.out.cell 0 _ rfl
      have z1 := KZ.out.cell 1 _ rfl
      have y0 := KZ.out.frozen 0
      have y1 := KZ.out.frozen 1
      clear d0 d1
      go_wp2_with fail
      have Z4 := (KZ.out.set 0 (.slice a4 X.length k4)).set 1 (.int .i64 (m : Int))
      have e0 := Z4.cell 0 _ rfl
      have e1 := Z4.cell 1 _ rfl
      have hD := ((Chg.refl [(w.heap.size + 1)] wr).setCell (p := ⟨(w.heap.size + 1), 0, none⟩) (Or.inl (by simp)) (.slice a4 X.length k4)).setCell (p := ⟨(w.heap.size + 1), 1, none⟩) (Or.inl (by simp)) (.int .i64 (m : Int))
      have hX := (KE.out.setCell (p := ⟨(w.heap.size + 1), 0, none⟩) (show w.heap.size ≤ (w.heap.size + 1) by omega) (.slice a4 X.length k4)).setCell (p := ⟨(w.heap.size + 1), 1, none⟩) (show w.heap.size ≤ (w.heap.size + 1) by omega) (.int .i64 (m : Int))
      refine bodyPost_ret (v := .tuple #[.agg #[.slice a4 X.length k4, .int .i64 (m : Int)], .int .i64 0]) (by simp [results, Try.results20, go_sem, e0, e1]) rfl ?_
      have hO4 := own_chg KO.out hD (by intro xx hx; simp at hx; subst hx; exact hzo.out)
      have hXX : pshs [] 0 (cut D a (b - a)) = X := by rw [← HX.out, Hjl.out]
      have hmm : b - a = m := by rw [← Hm.out, Hjl.out]; omega
      rw [hXX, hmm]
      exact ⟨a4, k4, rfl, Own8.rd hO4, Fresh.of_own KO.out (by omega), hX⟩

theorem rslice_any (v : Value) (D : List Int) (c x y : Int) (hb : Bytes D) (hl : D.length ≤ 60000) (hc0 : -9223372036854775808 ≤ c) (hc1 : c ≤ 9223372036854775807) (w : World) (h : Rd8 w v D) :
    Calls Try.prog 20 #[.agg #[v, .int .i64 c], .int .i64 x, .int .i64 y] w fun e w' => BitsPost w (slcF D c x y) e w' := by
  by_cases hk : chkb D c = 0
  · by_cases hn : x < 0 ∨ y < x ∨ c < y
    · exact rslice_bad1 v D c x y hb hl hc0 hc1 w h hk hn
    · obtain ⟨k0, k1, hwf⟩ := chkb_wf hb hk
      have hE : slcF D c x y = (0, pshs [] 0 (cut D x.toNat (y.toNat - x.toNat)), y.toNat - x.toNat) := by unfold slcF; rw [if_neg (by simp [hk]), if_neg hn]
      rw [hE]
      have := rslice_good v D c.toNat x.toNat y.toNat hb hl hwf (by omega) (by omega) (by omega) w h
      rw [Int.toNat_of_nonneg k0, Int.toNat_of_nonneg (show 0 ≤ x by omega), Int.toNat_of_nonneg (show 0 ≤ y by omega)] at this
      exact this
  · exact rslice_bad0 v D c x y hb hl hc0 hc1 w h hk

end Go.Proofs.Ytfnlekehcaehkaa
