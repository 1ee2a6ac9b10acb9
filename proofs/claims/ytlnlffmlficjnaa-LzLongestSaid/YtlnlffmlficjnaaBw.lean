/- The reference's Append, the good case and the whole. -/
import Derived.Test.YtlnlffmlficjnaaBv
import Derived.Test.YtlnlffmlficjnaaBo
namespace Go.Proofs.Ytlnlffmlficjnaa
open Go.RowKit
set_option linter.unusedVariables false
attribute [local go_sem ↓] Go.wp_at_zero Go.wp_at_succ

theorem i64_and_one (y : Int) (h0 : 0 ≤ y) (h1 : y ≤ 4294967295) : bits BinOp.and IntKind.i64 y 1 = y % 2 := by
  obtain ⟨a, rfl⟩ := Int.eq_ofNat_of_zero_le h0
  have hb : bits BinOp.and IntKind.i64 (a : Int) ((1 : Nat) : Int) = ((a &&& 1 : Nat) : Int) := by
    show IntKind.i64.wrap ((BitVec.ofInt 64 (a : Int) &&& BitVec.ofInt 64 ((1 : Nat) : Int)).toNat : Int) = _
    rw [BitVec.toNat_and, ofInt_u64 a (by omega), ofInt_u64 1 (by omega), Nat.and_one_is_mod, IntWalk.i64_in _ (by omega)]
  have e : ((1 : Nat) : Int) = 1 := rfl
  rw [e] at hb
  rw [hb, Nat.and_one_is_mod]
  omega

set_option maxHeartbeats 1000000 in
theorem rappend_good (v : Value) (D : List Int) (c y n : Int) (hb : Bytes D) (hl : D.length ≤ 60000) (hc0 : -9223372036854775808 ≤ c) (hc1 : c ≤ 9223372036854775807) (hy0 : 0 ≤ y) (hy1 : y ≤ 4294967295) (hn0 : -9223372036854775808 ≤ n) (hn1 : n ≤ 9223372036854775807) (w : World) (h : Rd8 w v D) (hk : chkb D c = 0) (hn : 0 ≤ n ∧ n ≤ 32) (hy : y < 2 ^ n.toNat) (hcn : c + n ≤ 524288) :
    Calls Try.prog 44 #[.agg #[v, .int .i64 c], .int .u32 y, .int .i64 n] w fun x w' => BitsPost w (appF D c y n) x w' := by
  have hE : appF D c y n = (0, pshs D c.toNat (low y n.toNat), c.toNat + n.toNat) := by unfold appF; rw [if_neg (by simp [hk]), if_neg (by omega), if_neg (by omega), if_neg (by omega)]
  rw [hE]
  obtain ⟨hk0, hk1, hwf⟩ := chkb_wf hb hk
  have Hk := hidden hk
  clear hk hE
  obtain ⟨c, rfl⟩ := Int.eq_ofNat_of_zero_le hk0
  obtain ⟨hn2, hn3⟩ := hn
  obtain ⟨n, rfl⟩ := Int.eq_ofNat_of_zero_le hn2
  simp only [Int.toNat_natCast] at hwf hy ⊢
  have hll := low_len y n
  have hl01 := low_01 y n
  have hQ : (2 : Int) ^ n ≤ 4294967296 := by
    have := Nat.pow_le_pow_right (show 0 < 2 by decide) (show n ≤ 32 by omega)
    have h3 : ((2 ^ n : Nat) : Int) ≤ ((2 ^ 32 : Nat) : Int) := Int.ofNat_le.mpr this
    simpa using h3
  have hQ0 := pow2_pos n
  have hn6 : min n 64 = n := by omega
  have hn4 : ¬ (n : Int) < 0 := by omega
  have hn5 : ¬ 32 < (n : Int) := by omega
  obtain ⟨Q, hQe⟩ : ∃ Q, (2 : Int) ^ n = Q := ⟨_, rfl⟩
  rw [hQe] at hQ hQ0 hy
  obtain ⟨a, cap, rfl, q1, q2, q3⟩ := Rd.shape h
  have W0B : Blk ((w.alloc (.cells #[.slice a D.length cap, .int .i64 c] 57)).alloc (.cells #[.slice none 0 0, .int .i64 0] 57)) w.heap.size 57 [.slice a D.length cap, .int .i64 (c : Int)] := (Blk.new w [.slice a D.length cap, .int .i64 (c : Int)] _).alloc _
  have W0Z : Blk ((w.alloc (.cells #[.slice a D.length cap, .int .i64 c] 57)).alloc (.cells #[.slice none 0 0, .int .i64 0] 57)) (w.heap.size + 1) 57 [.slice none 0 0, .int .i64 0] := by
    have := Blk.new (w.alloc (.cells #[.slice a D.length cap, .int .i64 c] 57)) [.slice none 0 0, .int .i64 0] 57
    rw [World.size_alloc] at this
    exact this
  have W0R : Rd8 ((w.alloc (.cells #[.slice a D.length cap, .int .i64 c] 57)).alloc (.cells #[.slice none 0 0, .int .i64 0] 57)) (.slice a D.length cap) D := Rd.alloc (Rd.alloc h _) _
  have W0E : Ext w ((w.alloc (.cells #[.slice a D.length cap, .int .i64 c] 57)).alloc (.cells #[.slice none 0 0, .int .i64 0] 57)) := ((Ext.refl w).alloc _).alloc _
  have p0 := W0B.cell 0 _ rfl
  have p1 := W0B.cell 1 _ rfl
  go_enter Try.func44, Try.ntmps44
  go_wp2_with fail
  refine (rcheck_any _ D (c : Int) hb (by omega) hc0 hc1 _ W0R).mono ?_
  rw [Hk.out]
  rintro e w1 ⟨rfl, g1⟩
  have W1B := W0B.ext g1
  have W1Z := W0Z.ext g1
  have pb0 := W1B.cell 0 _ rfl
  have pb1 := W1B.cell 1 _ rfl
  have pz0 := W1Z.cell 0 _ rfl
  have pz1 := W1Z.cell 1 _ rfl
  have py0 := W1Z.frozen 0
  have py1 := W1Z.frozen 1
  go_wp2_with fail
  refine (copy_any _ D (c : Int) (by omega) _ (W0R.ext g1)).mono ?_
  rintro e w3 ⟨v3, rfl, hO3, g3⟩
  have hs1 := g1.size
  simp at hs1
  have hs3 := g3.size
  have hB0 : Blk (w3.alloc (.cells #[v3, .int .i64 (c : Int)] 57)) w3.heap.size 57 [v3, .int .i64 (c : Int)] := Blk.new w3 [v3, .int .i64 (c : Int)] 57
  have hO0 : Own8 (w3.alloc (.cells #[v3, .int .i64 (c : Int)] 57)) w1.heap.size v3 D := World.ownsRow.alloc hO3 _
  have hZ0 := (W1Z.ext g3).alloc (.cells #[v3, .int .i64 (c : Int)] 57)
  have hE0 : Ext w (w3.alloc (.cells #[v3, .int .i64 (c : Int)] 57)) := ((W0E.trans g1).trans g3).alloc _
  obtain ⟨x3, k3, rfl, s1, s2, s3⟩ := Rd.shape hO3.rd
  obtain ⟨q, hq⟩ : ∃ q, w3.heap.size = q := ⟨_, rfl⟩
  rw [hq] at hB0 hs3
  have hqz : w.heap.size + 1 < q := by omega
  clear p0 p1 pb0 pb1 pz0 pz1 py0 py1
  go_wp2_with fail
  go_loopw [10] (fun i wr => ∃ (k : Nat) (v' : Value), k ≤ n ∧ i = .int .i64 ((n : Int) - 1 - (k : Int)) ∧ Blk wr q 57 [v', .int .i64 ((c + k : Nat) : Int)] ∧ Own8 wr w1.heap.size v' (pshs D c ((low y n).take k)) ∧ Blk wr (w.heap.size + 1) 57 [.slice none 0 0, .int .i64 0] ∧ Ext w wr ∧ q < wr.heap.size) (fun i _ => (intOf i + 1).toNat)
  case atStart => exact ⟨0, _, by omega, by go_num, by simpa using hB0, by simpa [pshs] using hO0, hZ0, hE0, by rw [← hq]; simp⟩
  case round =>
    obtain ⟨k, v', hk, rfl, hB, hO, hZ, hE, hqs⟩ := hrel
    have hwk : WF (pshs D c ((low y n).take k)) (c + k) := by
      have h := hwf.pshs (xs := (low y n).take k) (fun x hx => hl01 x (List.mem_of_mem_take hx))
      rw [List.length_take, hll, Nat.min_eq_left hk] at h
      exact h
    obtain ⟨a4, k4, rfl, r1, r2, r3⟩ := Rd.shape hO.rd
    have hq' := hidden hq
    clear hq
    have hqo := own_ne_blk hO hB (by decide)
    have hzo := own_ne_blk hO hZ (by decide)
    have d0 := hB.cell 0 _ rfl
    have d1 := hB.cell 1 _ rfl
    by_cases hlt : k < n
    · have i0 : (0 : Int) ≤ (n : Int) - 1 - (k : Int) := by omega
      have hdb := div_bd y (n - 1 - k) hy0 hy1
      have htn : min (n - 1 - k) 32 = n - 1 - k := by omega
      have htk := low_take y n k hlt
      have hb1 := i64_and_one _ hdb.1 hdb.2
      have hx01 : y / 2 ^ (n - 1 - k) % 2 = 0 ∨ y / 2 ^ (n - 1 - k) % 2 = 1 := by omega
      have hps : pshs D c ((low y n).take (k + 1)) = psh (pshs D c ((low y n).take k)) (c + k) (y / 2 ^ (n - 1 - k) % 2) := by
        rw [htk, pshs_snoc, List.length_take, hll, Nat.min_eq_left hk]
      have HPS := hidden hps
      have hx01 := hidden hx01
      clear hps htk
      go_wp2_with fail
      refine (add_any w1.heap.size (c + k) _ _ _ hx01.out (by omega) _ (by omega) hO hwk).mono ?_
      rintro e w5 ⟨v5, rfl, hO5, hS5, hC5⟩
      have hB5 := hB.chg hC5 (by simpa using hqo)
      have hZ5 := hZ.chg hC5 (by simpa using hzo)
      obtain ⟨a5, k5, rfl, t1, t2, t3⟩ := Rd.shape hO5.rd
      have d50 := hB5.cell 0 _ rfl
      have d51 := hB5.cell 1 _ rfl
      have f50 := hB5.frozen 0
      have f51 := hB5.frozen 1
      clear d0 d1
      go_wp2_with fail
      have hqo5 := own_ne_blk hO5 hB5 (by decide)
      have hwq : w.heap.size ≤ q := by omega
      obtain ⟨R, hR⟩ : ∃ R, Value.slice a5 (psh (pshs D c ((low y n).take k)) (c + k) (y / 2 ^ (n - 1 - k) % 2)).length k5 = R := ⟨_, rfl⟩
      rw [hR] at hO5 hqo5 ⊢
      have hC := ((Chg.refl [q] w5).setCell (p := ⟨q, 0, none⟩) (Or.inl (by simp)) R).setCell (p := ⟨q, 1, none⟩) (Or.inl (by simp)) (.int .i64 ((c : Int) + (k : Int) + 1))
      have hE5 : Ext w w5 := by
        refine Below.trans hE (Chg.below hC5 (fun z hz => ?_) hE.size)
        have := (own_lt hO (Option.mem_toList.1 hz)).1
        omega
      refine ⟨⟨k + 1, R, by omega, by go_num, ?_, ?_, ?_, ?_, ?_⟩, by simp [intOf]; omega⟩
      · rw [show ((c + (k + 1) : Nat) : Int) = (c : Int) + (k : Int) + 1 by omega]
        exact (hB5.set 0 R).set 1 _
      · rw [HPS.out]; exact own_chg hO5 hC (by intro z hz; simp at hz; subst hz; exact hqo5)
      · exact (hZ5.set_other (by omega) _).set_other (by omega) _
      · exact (hE5.setCell (p := ⟨q, 0, none⟩) hwq _).setCell (p := ⟨q, 1, none⟩) hwq _
      · have := hC5.size
        simp
        omega
    · obtain rfl : k = n := by omega
      have i0 : (k : Int) - 1 - (k : Int) = -1 := by omega
      rw [List.take_of_length_le (by rw [hll]; omega)] at hO hwk
      have z0 := hZ.cell 0 _ rfl
      have z1 := hZ.cell 1 _ rfl
      have y0 := hZ.frozen 0
      have y1 := hZ.frozen 1
      rw [List.take_of_length_le (by rw [hll]; omega)] at hB d0 r1 hqo hzo
      go_wp2_with fail
      have Z4 := (hZ.set 0 (.slice a4 (pshs D c (low y k)).length k4)).set 1 (.int .i64 ((c : Int) + (k : Int)))
      have e0 := Z4.cell 0 _ rfl
      have e1 := Z4.cell 1 _ rfl
      have hD := ((Chg.refl [w.heap.size + 1] wr).setCell (p := ⟨w.heap.size + 1, 0, none⟩) (Or.inl (by simp)) (.slice a4 (pshs D c (low y k)).length k4)).setCell (p := ⟨w.heap.size + 1, 1, none⟩) (Or.inl (by simp)) (.int .i64 ((c : Int) + (k : Int)))
      have hX := (hE.setCell (p := ⟨w.heap.size + 1, 0, none⟩) (by simp) (.slice a4 (pshs D c (low y k)).length k4)).setCell (p := ⟨w.heap.size + 1, 1, none⟩) (by simp) (.int .i64 ((c : Int) + (k : Int)))
      refine bodyPost_ret (v := .tuple #[.agg #[.slice a4 (pshs D c (low y k)).length k4, .int .i64 ((c : Int) + (k : Int))], .int .i64 0]) (by simp [results, Try.results44, go_sem, e0, e1]) rfl ?_
      refine ⟨a4, k4, by rw [show ((0, pshs D c (low y k), c + k).2.2 : Nat) = c + k from rfl]; simp, Own8.rd (own_chg hO hD (by intro z hz; simp at hz; subst hz; exact hzo)), Fresh.of_own hO (by omega), hX⟩

theorem rappend_any (v : Value) (D : List Int) (c y n : Int) (hb : Bytes D) (hl : D.length ≤ 60000) (hc0 : -9223372036854775808 ≤ c) (hc1 : c ≤ 9223372036854775807) (hy0 : 0 ≤ y) (hy1 : y ≤ 4294967295) (hn0 : -9223372036854775808 ≤ n) (hn1 : n ≤ 9223372036854775807) (w : World) (h : Rd8 w v D) :
    Calls Try.prog 44 #[.agg #[v, .int .i64 c], .int .u32 y, .int .i64 n] w fun x w' => BitsPost w (appF D c y n) x w' := by
  by_cases hk : chkb D c = 0
  · by_cases hn : 0 ≤ n ∧ n ≤ 32
    · by_cases hy : y < 2 ^ n.toNat
      · by_cases hcn : c + n ≤ 524288
        · exact rappend_good v D c y n hb hl hc0 hc1 hy0 hy1 hn0 hn1 w h hk hn hy hcn
        · exact rappend_bad3 v D c y n hb hl hc0 hc1 hy0 hy1 hn0 hn1 w h hk hn hy (by omega)
      · exact rappend_bad2 v D c y n hb hl hc0 hc1 hy0 hy1 hn0 hn1 w h hk hn (by omega)
    · exact rappend_bad1 v D c y n hb hl hc0 hc1 hy0 hy1 hn0 hn1 w h hk (by omega)
  · exact rappend_bad0 v D c y n hb hl hc0 hc1 hy0 hy1 hn0 hn1 w h hk

end Go.Proofs.Ytlnlffmlficjnaa
