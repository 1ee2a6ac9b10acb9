/- Layer 35: the statements LzChecks, LzPrices, LzGrows. -/
import Derived.Test.YtlnlffmlficjnaaLy
namespace Go.Proofs.Ytlnlffmlficjnaa
open Go.RowKit
set_option linter.unusedVariables false
attribute [local go_sem ↓] Go.wp_at_zero Go.wp_at_succ

theorem bl_mono (m n : Int) (h0 : 1 ≤ m) (h1 : m ≤ n) (h2 : n ≤ 2147483647) : (Lib.bitLen m.toNat : Int) ≤ Lib.bitLen n.toNat := by
  obtain ⟨i, hi, -⟩ := len_ex m h0 (by omega)
  obtain ⟨j, hj, -⟩ := len_ex n (by omega) h2
  obtain ⟨a1, a2⟩ := bitLen_int m h0 (by omega) i hi
  obtain ⟨b1, b2⟩ := bitLen_int n (by omega) h2 j hj
  rw [hi, hj]
  rcases Nat.lt_or_ge j i with g | g
  · exfalso
    have : (2 : Int) ^ (j + 1) ≤ 2 ^ i := by
      have := Nat.pow_le_pow_right (show 0 < 2 by decide) (show j + 1 ≤ i by omega)
      have h3 : ((2 ^ (j + 1) : Nat) : Int) ≤ ((2 ^ i : Nat) : Int) := Int.ofNat_le.mpr this
      simpa using h3
    omega
  · omega
theorem prc_copy (n d : Int) (h0 : 2 ≤ n) (h1 : n ≤ 255) (h2 : 1 ≤ d) (h3 : d ≤ 4096) : prc (n, d, 0) = 1 + gaB (n - 1) + gaB d := by
  unfold prc
  rw [if_neg (by unfold Wr; simp only; rw [if_neg (by omega)]; omega), if_neg (by simp only; omega)]
theorem prc_mono (n d m c : Int) (h1 : 2 ≤ m) (h2 : m ≤ n) (h3 : n ≤ 255) (h4 : 1 ≤ c) (h5 : c ≤ d) (h6 : d ≤ 4096) : 3 ≤ prc (m, c, 0) ∧ prc (m, c, 0) ≤ prc (n, d, 0) := by
  rw [prc_copy m c h1 (by omega) h4 (by omega), prc_copy n d (by omega) h3 (by omega) h6]
  have a := bl_mono (m - 1) (n - 1) (by omega) (by omega) (by omega)
  have b := bl_mono c d h4 h5 (by omega)
  have e1 := gaB_bd (m - 1) 8 (by omega) (by omega) (by decide)
  have e2 := gaB_bd c 13 (by omega) (by omega) (by decide)
  unfold gaB at *
  omega
theorem prc_lit (B : Int) : prc (0, 0, B) = 9 := by
  unfold prc
  rw [if_neg (by simp [Wr])]
  rfl
theorem prc_21 : prc (2, 1, 0) = 3 := by decide +kernel

set_option maxRecDepth 100000 in
set_option maxHeartbeats 4000000 in
theorem LzGrows_law (L D x y : Int) (hL0 : 0 ≤ L) (hL1 : L ≤ 255) (hD0 : 0 ≤ D) (hD1 : D ≤ 65535) (hx0 : 0 ≤ x) (hx1 : x ≤ 255) (hy0 : 0 ≤ y) (hy1 : y ≤ 255) (w : World) :
    Calls Try.prog 8 #[.int .u8 L, .int .u16 D, .agg #[.int .u8 x, .int .u8 y]] w fun x w' => x = .returned (.bool true) ∧ Ext w w' := by
  have haw := hidden awake_any
  obtain ⟨n, hn⟩ : ∃ n, 2 + L % 254 = n := ⟨_, rfl⟩
  obtain ⟨d, hd⟩ : ∃ d, 1 + D % 4096 = d := ⟨_, rfl⟩
  obtain ⟨m, hm⟩ : ∃ m, max 2 (n - x) = m := ⟨_, rfl⟩
  obtain ⟨c, hc⟩ : ∃ c, max 1 (d - y) = c := ⟨_, rfl⟩
  have n1 : 2 ≤ n ∧ n ≤ 255 := by omega
  have d1 : 1 ≤ d ∧ d ≤ 4096 := by omega
  have m1 : 2 ≤ m ∧ m ≤ n := by omega
  have c1 : 1 ≤ c ∧ c ≤ d := by omega
  have hmono := prc_mono n d m c m1.1 m1.2 n1.2 c1.1 c1.2 d1.2
  have p1 := lprice_any n d 0
  have p2 := lprice_any m c 0
  have p3 := lprice_any 2 1 0
  have p4 := lprice_any 0 0 L
  rw [prc_21] at p3
  rw [prc_lit] at p4
  obtain ⟨p, hp⟩ : ∃ p, prc (n, d, 0) = p := ⟨_, rfl⟩
  obtain ⟨q, hq⟩ : ∃ q, prc (m, c, 0) = q := ⟨_, rfl⟩
  rw [hp] at p1 hmono
  rw [hq] at p2 hmono
  obtain ⟨mo1, mo2⟩ := hmono
  replace p1 := hidden p1
  replace p2 := hidden p2
  replace p3 := hidden p3
  replace p4 := hidden p4
  obtain ⟨n1, n2⟩ := n1
  obtain ⟨d1, d2⟩ := d1
  clear hp hq m1 c1
  have BB := Blk.new w [.int .u8 x, .int .u8 y] 41
  have b0 := BB.cell 0 _ rfl
  have b1 := BB.cell 1 _ rfl
  have X0 := hidden ((Ext.refl w).alloc (.cells #[.int .u8 x, .int .u8 y] 41))
  clear BB
  go_enter Try.func8, Try.ntmps8
  go_wp2_with fail
  go_quiet (fail)
  go_wp2_with fail
  refine (p1.out _).mono ?_
  rintro e1 w1 ⟨rfl, g1⟩
  have X1 := hidden ((X0.out.drewN _).trans g1)
  clear b0 b1 g1
  go_wp2_with fail
  refine (p2.out _).mono ?_
  rintro e1 w2 ⟨rfl, g2⟩
  have X2 := hidden (X1.out.trans g2)
  clear g2
  go_wp2_with fail
  refine (haw.out _).mono ?_
  rintro e1 w3 ⟨rfl, g3⟩
  have X3 := hidden (X2.out.trans g3)
  clear g3
  go_wp2_with fail
  refine (p3.out _).mono ?_
  rintro e1 w4 ⟨rfl, g4⟩
  have X4 := hidden (X3.out.trans g4)
  clear g4
  go_wp2_with fail
  refine (p4.out _).mono ?_
  rintro e1 w5 ⟨rfl, g5⟩
  go_wp2_with fail
  go_ret
  exact ⟨rfl, X4.out.trans g5⟩

set_option maxRecDepth 100000 in
set_option maxHeartbeats 4000000 in
theorem LzChecks_law (v : Value) (l : List (Int × Int × Int)) (hok : OkTs l) (w : World) (h : Toks w v l) :
    Calls Try.prog 3 #[v] w fun x w' => x = .returned (.bool true) ∧ Ext w w' := by
  have haw := hidden awake_any
  obtain ⟨a, cap, rfl, q1, q2, q3⟩ := Rd.shape h
  have hfe := few_any a l.length cap
  have c1 := fun W hW => lexpand_any (.slice a l.length cap) l hok W hW
  have c2 := fun W hW => rexpand_any (.slice a l.length cap) l hok W hW
  have c3 := fun W hW => lchk_any (.slice a l.length cap) l hok W hW
  have c4 := fun W hW => rchk_any (.slice a l.length cap) l hok W hW
  obtain ⟨⟨e, D⟩, hE⟩ : ∃ r, expF l = r := ⟨_, rfl⟩
  simp only [hE] at c1 c2
  obtain ⟨q, hq⟩ : ∃ r, chkF l = r := ⟨_, rfl⟩
  simp only [hq] at c3 c4
  obtain ⟨n, hn⟩ : ∃ n, l.length = n := ⟨_, rfl⟩
  have H : Hid (Rd w 3 (.slice a n cap) n (l.flatMap tkc)) := hidden (by rw [← hn]; exact h)
  rw [hn] at hfe c1 c2 c3 c4 q1 ⊢
  replace c1 := hidden c1
  replace c2 := hidden c2
  replace c3 := hidden c3
  replace c4 := hidden c4
  clear h hE hq
  have hToks : ∀ W, Ext w W → Hid (Toks W (.slice a n cap) l) := fun W hW => hidden (by have := Rd.ext H.out hW; show Rd _ _ _ l.length _; rw [hn]; exact this)
  replace hToks := hidden hToks
  replace hn := hidden hn
  by_cases k : n ≤ 60
  · simp only [k, decide_true] at hfe
    replace hfe := hidden hfe
    go_enter Try.func3, Try.ntmps3
    go_wp2_with fail
    refine (hfe.out _).mono ?_
    rintro e1 w1 ⟨rfl, g1⟩
    go_wp2_with fail
    go_loopw [3] (fun i wr => ∃ k : Nat, k ≤ n ∧ i = .int .i64 (k : Int) ∧ Ext w wr) (fun i _ => n - (intOf i).toNat)
    case atStart => exact ⟨0, by omega, rfl, g1⟩
    case round =>
      obtain ⟨j, hj, rfl, hX⟩ := hrel
      obtain ⟨W, hWW⟩ : ∃ x, x = wr := ⟨_, rfl⟩
      subst hWW
      by_cases hlt : j < n
      · obtain ⟨b, off, rfl, -, -⟩ := H.out.cells (by omega)
        obtain ⟨x, hx, hxm⟩ := at_lt l (k := j) (by rw [hn.out]; exact hlt)
        obtain ⟨r0, r1, r2⟩ := rd3_at tkc_len H.out j x hx _ _ _ rfl
        obtain ⟨L, Ds, B⟩ := x
        simp only at r0 r1 r2
        have d0 := hX.cell r0
        have d1 := hX.cell r1
        have d2 := hX.cell r2
        have i1 : (0 : Int) ≤ (j : Int) := by omega
        have i2 : (j : Int) < (n : Int) := by omega
        have pA := lprice_any L Ds B
        have pB := rprice_any L Ds B
        obtain ⟨z, hz⟩ : ∃ z, prc (L, Ds, B) = z := ⟨_, rfl⟩
        simp only [hz] at pA pB
        replace pA := hidden pA
        replace pB := hidden pB
        replace hX := hidden hX
        clear r0 r1 r2 hx hxm hz
        go_upto_region 6 with fail
        go_region_held3 (fun w' => w'.cell? ⟨b, off + j * 3, none⟩ = some (.int .i64 L) ∧ w'.cell? ⟨b, off + j * 3 + 1, none⟩ = some (.int .i64 Ds) ∧ w'.cell? ⟨b, off + j * 3 + 2, none⟩ = some (.int .u8 B)) (go_keep)
          (first | (go_at_call 13; refine (pA.out _).mono ?_; rintro e5 w5 ⟨rfl, g5⟩; have gX : Ext W w5 := (by first | exact Ext.trans gX g5 | exact g5.past_drew | exact g5); have j0 := gX.cell d0; have j1 := gX.cell d1; have j2 := gX.cell d2) | (go_at_call 14; refine (pB.out _).mono ?_; rintro e5 w5 ⟨rfl, g5⟩; have gX : Ext W w5 := (by first | exact Ext.trans gX g5 | exact g5.past_drew | exact g5); have j0 := gX.cell d0; have j1 := gX.cell d1; have j2 := gX.cell d2))
        all_goals
          go_wp2_with fail
          go_round
          case rel => exact ⟨j + 1, by omega, by go_num, hX.out.trans gX⟩
          case measure => simp [intOf]; omega
      · have hT := hToks.out W hX
        replace hX := hidden hX
        go_wp2_with fail
        refine (c1.out _ hT.out).mono ?_
        rintro e1 w2 ⟨v2, rfl, O2, g2⟩
        obtain ⟨a2, k2, rfl, -, -, -⟩ := Rd.shape O2.rd
        have R2 : Hid (Rd8 w2 (.slice a2 D.length k2) D) := hidden O2.rd
        have X2 := hidden (hX.out.trans g2)
        have hT2 := hToks.out w2 X2.out
        clear O2 g2 hX hT
        go_wp2_with fail
        refine (c2.out _ hT2.out).mono ?_
        rintro e1 w3 ⟨v3, rfl, O3, g3⟩
        obtain ⟨a3, k3, rfl, -, -, -⟩ := Rd.shape O3.rd
        have S3 : Hid (Rd8 w3 (.slice a3 D.length k3) D) := hidden O3.rd
        have R3 : Hid (Rd8 w3 (.slice a2 D.length k2) D) := hidden (Rd.ext R2.out g3)
        have X3 := hidden (X2.out.trans g3)
        clear O3 g3 X2 hT2 R2
        go_wp2_with fail
        refine (haw.out _).mono ?_
        rintro e1 w4 ⟨rfl, g4⟩
        have S4 : Hid (Rd8 w4 (.slice a3 D.length k3) D) := hidden (Rd.ext S3.out g4)
        have R4 : Hid (Rd8 w4 (.slice a2 D.length k2) D) := hidden (Rd.ext R3.out g4)
        have X4 := hidden (X3.out.trans g4)
        have hT4 := hToks.out w4 X4.out
        clear g4 X3 R3 S3
        go_wp2_with fail
        refine (c3.out _ hT4.out).mono ?_
        rintro e1 w5 ⟨rfl, g5⟩
        have S5 : Hid (Rd8 w5 (.slice a3 D.length k3) D) := hidden (Rd.ext S4.out g5)
        have R5 : Hid (Rd8 w5 (.slice a2 D.length k2) D) := hidden (Rd.ext R4.out g5)
        have X5 := hidden (X4.out.trans g5)
        have hT5 := hToks.out w5 X5.out
        clear g5 X4 R4 S4 hT4
        go_wp2_with fail
        refine (c4.out _ hT5.out).mono ?_
        rintro e1 w6 ⟨rfl, g6⟩
        have h1 := str_of (Rd.ext S5.out g6 : Rd8 w6 (.slice a3 D.length k3) D)
        have h2 := str_of (Rd.ext R5.out g6 : Rd8 w6 (.slice a2 D.length k2) D)
        go_wp2_with fail
        go_ret
        exact ⟨ret_bool (by simp), X5.out.trans g6⟩
  · simp only [k, decide_false] at hfe
    replace hfe := hidden hfe
    go_enter Try.func3, Try.ntmps3
    go_wp2_with fail
    refine (hfe.out _).mono ?_
    rintro e1 w1 ⟨rfl, g1⟩
    go_wp2_with fail
    refine (haw.out _).mono ?_
    rintro e1 w4 ⟨rfl, g4⟩
    go_wp2_with fail
    go_ret
    exact ⟨rfl, g1.trans g4⟩

set_option maxRecDepth 100000 in
set_option maxHeartbeats 4000000 in
theorem LzPrices_law (v : Value) (l : List (Int × Int × Int)) (hok : OkTs l) (w : World) (h : Toks w v l) :
    Calls Try.prog 6 #[v] w fun x w' => x = .returned (.bool true) ∧ Ext w w' := by
  have haw := hidden awake_any
  obtain ⟨a, cap, rfl, q1, q2, q3⟩ := Rd.shape h
  have hfe := few_any a l.length cap
  have c1 := fun (hn : l.length ≤ 60) W hW => lencode_any (.slice a l.length cap) l hok (by omega) W hW
  have c3 := fun W hW => lchk_any (.slice a l.length cap) l hok W hW
  have hsb := sumP_bd l
  have hde := fun e => dec_enc l hok e
  have hwf := WF.pshs WF.nil (tbs_01 l)
  have hr := fun e => tbs_len l (chkF_right (l := l) e)
  obtain ⟨q, hq⟩ : ∃ r, chkF l = r := ⟨_, rfl⟩
  have e1 : q ≠ 0 → encF l = (q, []) := fun e => by unfold encF; rw [hq, if_pos e]
  have e2 : l.length ≤ 60 → q = 0 → encF l = (0, pshs [] 0 (tbs l)) := fun e e3 => by unfold encF; rw [hq, if_neg (by simp [e3]), if_neg (by omega)]
  rw [hq] at hde hr
  simp only [hq] at c3
  have hpl := hwf.len
  have hpb := hwf.bytes
  rw [Nat.zero_add] at hpl
  obtain ⟨E, hE⟩ : ∃ E, pshs [] 0 (tbs l) = E := ⟨_, rfl⟩
  rw [hE] at hde e2 hpl hpb
  obtain ⟨n, hn⟩ : ∃ n, l.length = n := ⟨_, rfl⟩
  have H : Hid (Rd w 3 (.slice a n cap) n (l.flatMap tkc)) := hidden (by rw [← hn]; exact h)
  rw [hn] at hfe c1 c3 q1 e2 hsb ⊢
  replace c3 := hidden c3
  have hToks : ∀ W, Ext w W → Hid (Toks W (.slice a n cap) l) := fun W hW => hidden (by have := Rd.ext H.out hW; show Rd _ _ _ l.length _; rw [hn]; exact this)
  replace hToks := hidden hToks
  clear h hwf hE hq
  by_cases k : n ≤ 60
  · simp only [k, decide_true] at hfe
    replace hfe := hidden hfe
    replace c1 := c1 k
    by_cases kq : q = 0
    · subst kq
      rw [e2 k rfl] at c1
      have hd2 := hde rfl (by omega)
      have ht := hr rfl
      have hEl : E.length ≤ 65536 := by omega
      have hEq : ((E.length : Nat) : Int) = (sumP l + 7) / 8 := by omega
      have c4 := fun u W hW => ldecode_any u E hpb hEl W hW
      rw [hd2] at c4
      replace c1 := hidden c1
      replace c4 := hidden c4
      replace hn := hidden hn
      obtain ⟨m8, hm8⟩ : ∃ m, E.length = m := ⟨_, rfl⟩
      rw [hm8] at hEq
      replace hm8 := hidden hm8
      replace hEq := hidden hEq
      clear e1 e2 hde hr hd2 ht hEl hpl hsb
      go_enter Try.func6, Try.ntmps6
      go_wp2_with fail
      refine (hfe.out _).mono ?_
      rintro e1 w1 ⟨rfl, g1⟩
      have hT1 := hToks.out w1 g1
      go_wp2_with fail
      refine (c1.out _ hT1.out).mono ?_
      rintro e1 w2 ⟨v2, rfl, O2, g2⟩
      obtain ⟨a2, k2, hv2, -, -, -⟩ := Rd.shape O2.rd
      rw [hm8.out] at hv2
      subst hv2
      have R2 : Hid (Rd8 w2 (.slice a2 m8 k2) E) := hidden O2.rd
      have X2 := hidden (g1.trans g2)
      clear O2 g2 hT1 g1
      go_wp2_with fail
      go_loopw [5, 6] (fun s i wr => ∃ (k : Nat) (z : Int), k ≤ n ∧ i = .int .i64 (k : Int) ∧ s = .int .i64 z ∧ 0 ≤ z ∧ z ≤ 41 * (k : Int) ∧ Hid (sumP (l.take k) = z) ∧ Ext w2 wr) (fun _ i _ => n - (intOf i).toNat)
      case atStart => exact ⟨0, 0, by omega, rfl, rfl, by omega, by omega, rfl, Ext.refl _⟩
      case round =>
        obtain ⟨j, z, hj, rfl, rfl, z0, z1, hz, hX⟩ := hrel
        obtain ⟨W, hWW⟩ : ∃ x, x = wr := ⟨_, rfl⟩
        subst hWW
        by_cases hlt : j < n
        · obtain ⟨b, off, rfl, -, -⟩ := H.out.cells (by omega)
          obtain ⟨x, hx, hxm⟩ := at_lt l (k := j) (by rw [hn.out]; exact hlt)
          obtain ⟨r0, r1, r2⟩ := rd3_at tkc_len H.out j x hx _ _ _ rfl
          have hsn : sumP (l.take (j + 1)) = z + prc x := by rw [take_at hx, sumP_snoc, hz.out]
          obtain ⟨L, Ds, B⟩ := x
          simp only at r0 r1 r2
          have hXX := X2.out.trans hX
          have d0 := hXX.cell r0
          have d1 := hXX.cell r1
          have d2 := hXX.cell r2
          have i1 : (0 : Int) ≤ (j : Int) := by omega
          have i2 : (j : Int) < (n : Int) := by omega
          have pA := lprice_any L Ds B
          have pb := prc_bd (L, Ds, B)
          obtain ⟨y, hy⟩ : ∃ z, prc (L, Ds, B) = z := ⟨_, rfl⟩
          simp only [hy] at pA
          rw [hy] at pb hsn
          obtain ⟨y0, y1⟩ := pb
          replace pA := hidden pA
          replace hX := hidden hX
          replace hsn := hidden hsn
          clear r0 r1 r2 hx hxm hy hXX
          go_wp2_with fail
          refine (pA.out _).mono ?_
          rintro e5 w5 ⟨rfl, g5⟩
          go_wp2_with fail
          go_round
          case rel => exact ⟨j + 1, z + y, by omega, by go_num, rfl, by omega, by omega, hsn, hX.out.trans g5⟩
          case measure => simp [intOf]; omega
        · have hfin : ((m8 : Int) == (z + 7) / 8) = true := by
            have h1 := hEq.out
            have h2 := hz.out
            rw [List.take_of_length_le (by rw [hn.out]; omega)] at h2
            rw [h2] at h1
            simp [h1]
          have R3 : Hid (Rd8 W (.slice a2 m8 k2) E) := hidden (Rd.ext R2.out hX)
          have X3 := hidden (X2.out.trans hX)
          clear hX
          go_wp2_with fail
          refine (c4.out _ _ R3.out).mono ?_
          rintro e1 w3 ⟨v3, rfl, O3, g3⟩
          have U3 : Hid (Toks w3 v3 l) := hidden O3.toks
          obtain ⟨a3, k3, rfl, -, -, -⟩ := Rd.shape U3.out
          have X4 := hidden (X3.out.trans g3)
          clear O3 g3 X3 R3
          go_wp2_with fail
          refine (haw.out _).mono ?_
          rintro e1 w4 ⟨rfl, g4⟩
          have U4 : Hid (Toks w4 (.slice a3 l.length k3) l) := hidden (Rd.ext U3.out g4)
          have X5 := hidden (X4.out.trans g4)
          have hT5 := hToks.out w4 X5.out
          clear g4 X4 U3
          go_wp2_with fail
          refine (sameT_any _ _ l l (by rw [hn.out]; omega) (by rw [hn.out]; omega) _ hT5.out U4.out).mono ?_
          rintro e3 w6 ⟨rfl, g6⟩
          go_wp2_with fail
          go_ret
          exact ⟨ret_bool (by simp), X5.out.trans g6⟩
    · rw [e1 kq] at c1
      have ke2 : (q != 0) = true := by simp [kq]
      replace c1 := hidden c1
      replace hn := hidden hn
      clear e1 e2 hde hr kq hpl hpb hsb
      go_enter Try.func6, Try.ntmps6
      go_wp2_with fail
      refine (hfe.out _).mono ?_
      rintro e1 w1 ⟨rfl, g1⟩
      have hT1 := hToks.out w1 g1
      go_wp2_with fail
      refine (c1.out _ hT1.out).mono ?_
      rintro e1 w2 ⟨v2, rfl, O2, g2⟩
      obtain ⟨a2, k2, rfl, -, -, -⟩ := Rd.shape O2.rd
      have X2 := hidden (g1.trans g2)
      clear O2 g2 hT1 g1
      go_wp2_with fail
      refine (haw.out _).mono ?_
      rintro e1 w4 ⟨rfl, g4⟩
      have X5 := hidden (X2.out.trans g4)
      have hT5 := hToks.out w4 X5.out
      clear g4 X2
      go_wp2_with fail
      refine (c3.out _ hT5.out).mono ?_
      rintro e3 w6 ⟨rfl, g6⟩
      go_wp2_with fail
      go_ret
      exact ⟨ret_bool (by simp), X5.out.trans g6⟩
  · simp only [k, decide_false] at hfe
    replace hfe := hidden hfe
    clear c1 e1 e2 hde hr hpl hpb hsb hn
    go_enter Try.func6, Try.ntmps6
    go_wp2_with fail
    refine (hfe.out _).mono ?_
    rintro e1 w1 ⟨rfl, g1⟩
    go_wp2_with fail
    refine (haw.out _).mono ?_
    rintro e1 w4 ⟨rfl, g4⟩
    go_wp2_with fail
    go_ret
    exact ⟨rfl, g1.trans g4⟩
end Go.Proofs.Ytlnlffmlficjnaa
