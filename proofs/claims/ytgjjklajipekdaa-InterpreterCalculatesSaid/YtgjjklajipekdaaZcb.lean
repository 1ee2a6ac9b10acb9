/- The arithmetic of programs is that of layer 15: for all operations with two operands and all numbers. -/
import Derived.Test.YtgjjklajipekdaaZcal
namespace Go.Proofs.Ytgjjklajipekdaa
open Go.RowKit
set_option linter.unusedVariables false
set_option linter.unusedSimpArgs false
attribute [local go_sem ↓] Go.wp_at_zero Go.wp_at_succ

theorem cI_one (l : List (Int × Int)) : ∀ u ∈ l.flatMap cI, u.oneCell' = true := fun u hu => by
  obtain ⟨y, -, hy⟩ := List.mem_flatMap.1 hu
  simp only [cI, List.mem_cons, List.not_mem_nil, or_false] at hy
  rcases hy with rfl | rfl <;> rfl
set_option maxHeartbeats 4000000 in
set_option maxRecDepth 100000 in
theorem InterpreterCalculates_law (op a b : Int) (ho0 : -9223372036854775808 ≤ op) (ho1 : op ≤ 9223372036854775807) (ha0 : 0 ≤ a) (ha1 : a ≤ 4294967295) (hb0 : 0 ≤ b) (hb1 : b ≤ 4294967295) (w : World) :
    Calls Try.prog 3 #[.int .i64 op, .int .u32 a, .int .u32 b] w fun x w' => x = .returned (.bool true) ∧ Ext w w' := by
  have haw := hidden awake_any
  have hE := hidden (Ext.refl w)
  obtain ⟨i0, hi, hz0, hz1, hz2⟩ := info_parts instr_info
  have hia := hidden hi
  clear hi
  go_enter Try.func3, Try.ntmps3
  by_cases h8 : op < 8
  · have q1 : decide (op < 8) = true := by simpa using h8
    go_wp2_with fail
    refine (haw.out _).mono ?_
    rintro x wz ⟨rfl, hX⟩
    go_wp2_with fail
    go_ret
    exact ⟨rfl, hX⟩
  have q1 : decide (op < 8) = false := by simpa using h8
  by_cases h22 : 22 < op
  · have q2 : decide (22 < op) = true := by simpa using h22
    go_wp2_with fail
    refine (haw.out _).mono ?_
    rintro x wz ⟨rfl, hX⟩
    go_wp2_with fail
    go_ret
    exact ⟨rfl, hX⟩
  have q2 : decide (22 < op) = false := by simpa using h22
  have k0 : 8 ≤ op := by omega
  have k1 : op ≤ 22 := by omega
  have hfd := hidden (cal_feed (b := b) k0 k1 ha0 ha1 hb0 hb1)
  have hoki := hidden (cal_oki k0 k1 ha0 ha1 hb0 hb1)
  have hcC := hidden (show calC op a b = if 21 ≤ op then [(0, a), (0, b), (op, 0), (26, 0), (35, 3)] else [(0, a), (0, b), (op, 0), (35, 3)] from rfl)
  have hap := hidden (fun (W : World) => iapply_any op a b ha0 ha1 hb0 hb1 W)
  replace h8 := hidden h8
  replace h22 := hidden h22
  obtain ⟨⟨n, e⟩, hape⟩ : ∃ r, apF op a b = r := ⟨_, rfl⟩
  rw [hape] at hfd hap
  clear hape
  simp only at hfd hap
  have hO0 := World.ownsRow_lit (base := w.heap.size) (e := 25) (size := 2) w #[.int .i64 0, .int .u32 a, .int .i64 0, .int .u32 b, .int .i64 op, .int .u32 0] 3 (Nat.le_refl _) (by decide) rfl
  obtain ⟨ib, hib⟩ : ∃ p, w.heap.size = p := ⟨_, rfl⟩
  have X1 := (Ext.refl w).alloc (.cells #[.int .i64 0, .int .u32 a, .int .i64 0, .int .u32 b, .int .i64 op, .int .u32 0] 25)
  obtain ⟨V0, hV0⟩ : ∃ V, w.alloc (.cells #[.int .i64 0, .int .u32 a, .int .i64 0, .int .u32 b, .int .i64 op, .int .u32 0] 25) = V := ⟨_, rfl⟩
  rw [hV0] at X1 hO0
  have s0 : V0.heap.size = ib + 1 := by rw [← hV0, ← hib]; exact Array.size_push ..
  have hO := hidden (show V0.ownsRow ib 25 2 (.slice (some ⟨ib, 0, none⟩) 3 3) 3 (([(0, a), (0, b), (op, 0)] : List (Int × Int)).flatMap cI) by rw [← hib]; exact hO0)
  have X2 := (Ext.refl V0).alloc (.cells #[.slice none 0 0, .int .i64 0, .slice (some ⟨ib, 0, none⟩) 3 3] 29)
  have BN := blk_at1 V0 [.slice none 0 0, .int .i64 0, .slice (some ⟨ib, 0, none⟩) 3 3] 29 (ib + 1) s0
  obtain ⟨p, hp⟩ : ∃ p, ib + 1 = p := ⟨_, rfl⟩
  rw [hp] at BN
  obtain ⟨V1, hV1⟩ : ∃ V, V0.alloc (.cells #[.slice none 0 0, .int .i64 0, .slice (some ⟨ib, 0, none⟩) 3 3] 29) = V := ⟨_, rfl⟩
  rw [show (V0.alloc (.cells ([.slice none 0 0, .int .i64 0, .slice (some ⟨ib, 0, none⟩) 3 3] : List Value).toArray 29)) = V1 from hV1] at BN
  rw [hV1] at X2
  replace hO := hidden (own_ext hO.out X2)
  replace hE := hidden (X1.trans X2)
  have Bp := hidden BN
  have hV0I := hidden hV0
  have hV1I := hidden hV1
  have hpI := hidden hp
  have hibI := hidden hib
  clear BN X1 X2 hO0 hV0 hV1 s0 hp
  go_upto_region 4 with fail
  rw [show (w.alloc (.cells #[.int .i64 0, .int .u32 a, .int .i64 0, .int .u32 b, .int .i64 op, .int .u32 0] 25)) = V0 from hV0I.out, hV1I.out, hpI.out]
  clear hV0I hV1I hib
  by_cases h21 : 21 ≤ op
  · have q3 : decide (21 ≤ op) = true := by simpa using h21
    replace h21 := hidden h21
    go_upto_region 5 with fail
    have XL := (Ext.refl V1).alloc (.cells #[.int .i64 26, .int .u32 0] 25)
    have HOa := hidden (own_ext hO.out XL)
    have HN := hidden (rd_newc V1 [.int .i64 26, .int .u32 0] 25 2 1 rfl (by decide))
    have BL := hidden (Bp.out.ext XL)
    have kk2 := Bp.out.cell 2 _ rfl
    have k2 := BL.out.cell 2 _ rfl
    have l2 := BL.out.frozen 2
    have hpw : w.heap.size ≤ p := by have h1 := hpI.out; have h2 := hibI.out; omega
    have hbw : ib ≤ (V1.alloc (.cells #[.int .i64 26, .int .u32 0] 25)).heap.size := by have h1 := BL.out.lt; have h2 := hpI.out; omega
    go_upto_region 6 with (at_builtin; refine wpList_append_rd (by rfl) _ _ 26 (by rfl) ib 25 i0 (.agg #[.int .i64 0, .int .u32 0]) 2 16 Try.underlying26 hia.out hz0 hz1 hz2 rfl (by decide) (.slice (some ⟨ib, 0, none⟩) 3 3) 3 (([(0, a), (0, b), (op, 0)] : List (Int × Int)).flatMap cI) (by rfl) HOa.out (some ⟨V1.heap.size, 0, none⟩) 1 1 [.int .i64 26, .int .u32 0] (by rfl) HN.out (by simp [Value.oneCell']) (by unfold maxLen; omega) (by omega) hbw ?_; intro v' w4 hown4 hgrow4 hat4; obtain ⟨a5, c5, rfl, -⟩ := own_shape hown4; have c4 : Chg (Value.slice (some ⟨ib, 0, none⟩) 3 3).ownBlock.toList (V1.alloc (.cells #[.int .i64 26, .int .u32 0] 25)) w4 := (Chg.refl _ _).grown hgrow4 (fun k hk => Or.inl (by simp [hk])); have hpq : p ∉ (Value.slice (some ⟨ib, 0, none⟩) 3 3).ownBlock.toList := (fun hm => own_ne_blk HOa.out BL.out (by decide) (by simpa using hm)); have k3 := c4.cell hpq k2; have l3 := c4.frozen hpq k2 l2; have B4 := hidden (BL.out.chg c4 hpq); have E4 := hidden ((Chg.of_ext [] (hE.out.trans XL)).grown hgrow4 (fun k hk => Or.inr (by have h1 := (own_lt HOa.out hk).1; have h2 := hibI.out; omega))).ext; have O4 := hidden hown4; clear hown4 hgrow4 hat4 c4 hpq)
    have B5 := B4.out.set 2 (.slice a5 (3 + 1) c5)
    have E5 := E4.out.setCell (p := ⟨p, 2, none⟩) hpw (.slice a5 (3 + 1) c5)
    have O5 := own_chg O4.out ((Chg.refl [p] w4).setCell (p := ⟨p, 2, none⟩) (Or.inl (by simp)) (.slice a5 (3 + 1) c5)) (fun x hx => by rw [List.mem_singleton.1 hx]; exact own_ne_blk O4.out B4.out (by decide))
    obtain ⟨V5, hV5V⟩ : ∃ V, w4.setCell ⟨p, 2, none⟩ (.slice a5 (3 + 1) c5) = V := ⟨_, rfl⟩
    rw [hV5V] at B5 E5 O5 ⊢
    clear hV5V kk2 k2 l2 k3 l3 XL HOa HN BL B4 E4 O4 hbw hpw hO hE Bp
    have hO := hidden (show V5.ownsRow ib 25 2 (.slice a5 4 c5) 4 (([(0, a), (0, b), (op, 0), (26, 0)] : List (Int × Int)).flatMap cI) from O5)
    have hE := hidden E5
    have Bp := hidden (show Blk V5 p 29 [.slice none 0 0, .int .i64 0, .slice a5 4 c5] from B5)
    clear O5 E5 B5
    have XL := (Ext.refl V5).alloc (.cells #[.int .i64 35, .int .u32 3] 25)
    have HOa := hidden (own_ext hO.out XL)
    have HN := hidden (rd_newc V5 [.int .i64 35, .int .u32 3] 25 2 1 rfl (by decide))
    have BL := hidden (Bp.out.ext XL)
    have kk2 := Bp.out.cell 2 _ rfl
    have k2 := BL.out.cell 2 _ rfl
    have l2 := BL.out.frozen 2
    have hpw : w.heap.size ≤ p := by have h1 := hpI.out; have h2 := hibI.out; omega
    have hbw : ib ≤ (V5.alloc (.cells #[.int .i64 35, .int .u32 3] 25)).heap.size := by have h1 := BL.out.lt; have h2 := hpI.out; omega
    go_upto_region 7 with (at_builtin; refine wpList_append_rd (by rfl) _ _ 26 (by rfl) ib 25 i0 (.agg #[.int .i64 0, .int .u32 0]) 2 16 Try.underlying26 hia.out hz0 hz1 hz2 rfl (by decide) (.slice a5 4 c5) 4 (([(0, a), (0, b), (op, 0), (26, 0)] : List (Int × Int)).flatMap cI) (by rfl) HOa.out (some ⟨V5.heap.size, 0, none⟩) 1 1 [.int .i64 35, .int .u32 3] (by rfl) HN.out (by simp [Value.oneCell']) (by unfold maxLen; omega) (by omega) hbw ?_; intro v' w4 hown4 hgrow4 hat4; obtain ⟨a6, c6, rfl, -⟩ := own_shape hown4; have c4 : Chg (Value.slice a5 4 c5).ownBlock.toList (V5.alloc (.cells #[.int .i64 35, .int .u32 3] 25)) w4 := (Chg.refl _ _).grown hgrow4 (fun k hk => Or.inl (by simp [hk])); have hpq : p ∉ (Value.slice a5 4 c5).ownBlock.toList := (fun hm => own_ne_blk HOa.out BL.out (by decide) (by simpa using hm)); have k3 := c4.cell hpq k2; have l3 := c4.frozen hpq k2 l2; have B4 := hidden (BL.out.chg c4 hpq); have E4 := hidden ((Chg.of_ext [] (hE.out.trans XL)).grown hgrow4 (fun k hk => Or.inr (by have h1 := (own_lt HOa.out hk).1; have h2 := hibI.out; omega))).ext; have O4 := hidden hown4; clear hown4 hgrow4 hat4 c4 hpq)
    have B5 := B4.out.set 2 (.slice a6 (4 + 1) c6)
    have E5 := E4.out.setCell (p := ⟨p, 2, none⟩) hpw (.slice a6 (4 + 1) c6)
    have O5 := own_chg O4.out ((Chg.refl [p] w4).setCell (p := ⟨p, 2, none⟩) (Or.inl (by simp)) (.slice a6 (4 + 1) c6)) (fun x hx => by rw [List.mem_singleton.1 hx]; exact own_ne_blk O4.out B4.out (by decide))
    obtain ⟨V6, hV6V⟩ : ∃ V, w4.setCell ⟨p, 2, none⟩ (.slice a6 (4 + 1) c6) = V := ⟨_, rfl⟩
    rw [hV6V] at B5 E5 O5 ⊢
    clear hV6V kk2 k2 l2 k3 l3 XL HOa HN BL B4 E4 O4 hbw hpw hO hE Bp
    have hO := hidden (show V6.ownsRow ib 25 2 (.slice a6 5 c6) 5 (([(0, a), (0, b), (op, 0), (26, 0), (35, 3)] : List (Int × Int)).flatMap cI) from O5)
    have hE := hidden E5
    have Bp := hidden (show Blk V6 p 29 [.slice none 0 0, .int .i64 0, .slice a6 5 c6] from B5)
    clear O5 E5 B5
    have hC := hidden (show Cod V6 (.slice a6 5 c6) (calC op a b) by unfold Cod; rw [hcC.out, if_pos h21.out]; exact Rd.of_own hO.out)
    clear hO
    have hapc := hidden (hap.out V6)
    go_wp2_with fail
    refine (hapc.out).mono ?_
    rintro x w7 ⟨rfl, hX⟩
    replace Bp := hidden (Bp.out.ext hX)
    replace hC := hidden ((Rd.ext hC.out hX : Cod _ _ _))
    replace hE := hidden (hE.out.trans hX)
    clear hX hapc hap
    have cp0 := Bp.out.cell 0 _ rfl
    have cp1 := Bp.out.cell 1 _ rfl
    have cp2 := Bp.out.cell 2 _ rfl
    have hfe := hidden (ifeed_any (.slice none 0 0) (.slice a6 5 c6) (.slice none 0 0) [] 0 (calC op a b) [] 10 oka_nil hoki.out (by decide) (by decide) (by decide) (by decide) (fun _ h => by cases h) w7 (rd_none _ _) hC.out (rd_none _ _))
    rw [hfd.out] at hfe
    by_cases he : e = 0
    · subst he
      rw [show calR op n 0 = .ok ([], z16.set 3 n, [], 5) by unfold calR; rw [if_neg (by decide), if_pos h21.out]] at hfe
      replace hfe := hidden (cal_ok hfe.out)
      go_wp2_with fail
      refine (hfe.out).mono ?_
      rintro x w8 ⟨ra, rc, ro, rfl, hM, hRo, hX⟩
      clear cp0 cp1 cp2
      obtain ⟨ar, cr, ax, cx, rfl, rfl⟩ := hM.shape 0 16 rfl (by simp)
      obtain ⟨ao, co, rfl, -⟩ := Rd.shape (show Rd w8 1 ro 0 _ from hRo)
      clear hRo hfe hC
      replace Bp := hidden (Bp.out.ext hX)
      replace hE := hidden (hE.out.trans hX)
      clear hX
      obtain ⟨vs, -, -, hx32⟩ := hM
      have hx2 := hidden (show Rd w8 1 (.slice ax 16 cx) 16 ((z16.set 3 n).map (Value.int .u32)) by have := hx32; unfold R32 at this; simpa using this)
      clear hx32
      obtain ⟨r, hr⟩ : ∃ p, w8.heap.size = p := ⟨_, rfl⟩
      have XN := (Ext.refl w8).alloc (.cells #[.slice ar 0 cr, .slice ax 16 cx, .slice ao 0 co, .int .i64 5] 39)
      have BN := blk_at1 w8 [.slice ar 0 cr, .slice ax 16 cx, .slice ao 0 co, .int .i64 5] 39 r hr
      obtain ⟨V8, hV8V⟩ : ∃ V, w8.alloc (.cells #[.slice ar 0 cr, .slice ax 16 cx, .slice ao 0 co, .int .i64 5] 39) = V := ⟨_, rfl⟩
      rw [show (w8.alloc (.cells ([.slice ar 0 cr, .slice ax 16 cx, .slice ao 0 co, .int .i64 5] : List Value).toArray 39)) = V8 from hV8V] at BN
      rw [hV8V] at XN
      replace Bp := hidden (Bp.out.ext XN)
      replace hx2 := hidden (Rd.ext hx2.out XN)
      replace hE := hidden (hE.out.trans XN)
      have Br := hidden BN
      clear BN
      clear XN
      replace hV8V := hidden hV8V
      go_upto_region 9 with fail
      rw [hV8V.out]
      clear hV8V hr
      obtain ⟨xb, xo, rfl, -, -⟩ := Rd.cells hx2.out (show 0 < 16 by decide)
      have x3 := rd_at hx2.out 3 (.int .u32 n) (by simp [z16, List.replicate])
      have cp0 := Bp.out.cell 0 _ rfl
      have cp1 := Bp.out.cell 1 _ rfl
      have cp2 := Bp.out.cell 2 _ rfl
      have cr0 := Br.out.cell 0 _ rfl
      have cr1 := Br.out.cell 1 _ rfl
      have cr2 := Br.out.cell 2 _ rfl
      have cr3 := Br.out.cell 3 _ rfl
      go_wp2_with fail
      refine (haw.out _).mono ?_
      rintro x wz ⟨rfl, hX⟩
      go_wp2_with fail
      go_ret
      exact ⟨rfl, hE.out.trans hX⟩
    · rw [show calR op n e = .error e by unfold calR; rw [if_pos he]] at hfe
      have he' : (e != 0) = true := by simpa using he
      replace he := hidden he
      replace hfe := hidden (cal_err hfe.out)
      go_wp2_with fail
      refine (hfe.out).mono ?_
      rintro x w8 ⟨rfl, hX⟩
      clear cp0 cp1 cp2
      replace hE := hidden (hE.out.trans (hX.trans ((Ext.refl w8).alloc (.cells #[.slice none 0 0, .slice none 0 0, .slice none 0 0, .int .i64 0] 39))))
      clear hX hfe hC
      go_wp2_with fail
      refine (haw.out _).mono ?_
      rintro x wz ⟨rfl, hX⟩
      go_wp2_with fail
      go_ret
      exact ⟨rfl, hE.out.trans hX⟩
  · have q3 : decide (21 ≤ op) = false := by simpa using h21
    replace h21 := hidden h21
    go_upto_region 6 with fail
    have XL := (Ext.refl V1).alloc (.cells #[.int .i64 35, .int .u32 3] 25)
    have HOa := hidden (own_ext hO.out XL)
    have HN := hidden (rd_newc V1 [.int .i64 35, .int .u32 3] 25 2 1 rfl (by decide))
    have BL := hidden (Bp.out.ext XL)
    have kk2 := Bp.out.cell 2 _ rfl
    have k2 := BL.out.cell 2 _ rfl
    have l2 := BL.out.frozen 2
    have hpw : w.heap.size ≤ p := by have h1 := hpI.out; have h2 := hibI.out; omega
    have hbw : ib ≤ (V1.alloc (.cells #[.int .i64 35, .int .u32 3] 25)).heap.size := by have h1 := BL.out.lt; have h2 := hpI.out; omega
    go_upto_region 7 with (at_builtin; refine wpList_append_rd (by rfl) _ _ 26 (by rfl) ib 25 i0 (.agg #[.int .i64 0, .int .u32 0]) 2 16 Try.underlying26 hia.out hz0 hz1 hz2 rfl (by decide) (.slice (some ⟨ib, 0, none⟩) 3 3) 3 (([(0, a), (0, b), (op, 0)] : List (Int × Int)).flatMap cI) (by rfl) HOa.out (some ⟨V1.heap.size, 0, none⟩) 1 1 [.int .i64 35, .int .u32 3] (by rfl) HN.out (by simp [Value.oneCell']) (by unfold maxLen; omega) (by omega) hbw ?_; intro v' w4 hown4 hgrow4 hat4; obtain ⟨a6, c6, rfl, -⟩ := own_shape hown4; have c4 : Chg (Value.slice (some ⟨ib, 0, none⟩) 3 3).ownBlock.toList (V1.alloc (.cells #[.int .i64 35, .int .u32 3] 25)) w4 := (Chg.refl _ _).grown hgrow4 (fun k hk => Or.inl (by simp [hk])); have hpq : p ∉ (Value.slice (some ⟨ib, 0, none⟩) 3 3).ownBlock.toList := (fun hm => own_ne_blk HOa.out BL.out (by decide) (by simpa using hm)); have k3 := c4.cell hpq k2; have l3 := c4.frozen hpq k2 l2; have B4 := hidden (BL.out.chg c4 hpq); have E4 := hidden ((Chg.of_ext [] (hE.out.trans XL)).grown hgrow4 (fun k hk => Or.inr (by have h1 := (own_lt HOa.out hk).1; have h2 := hibI.out; omega))).ext; have O4 := hidden hown4; clear hown4 hgrow4 hat4 c4 hpq)
    have B5 := B4.out.set 2 (.slice a6 (3 + 1) c6)
    have E5 := E4.out.setCell (p := ⟨p, 2, none⟩) hpw (.slice a6 (3 + 1) c6)
    have O5 := own_chg O4.out ((Chg.refl [p] w4).setCell (p := ⟨p, 2, none⟩) (Or.inl (by simp)) (.slice a6 (3 + 1) c6)) (fun x hx => by rw [List.mem_singleton.1 hx]; exact own_ne_blk O4.out B4.out (by decide))
    obtain ⟨V6, hV6V⟩ : ∃ V, w4.setCell ⟨p, 2, none⟩ (.slice a6 (3 + 1) c6) = V := ⟨_, rfl⟩
    rw [hV6V] at B5 E5 O5 ⊢
    clear hV6V kk2 k2 l2 k3 l3 XL HOa HN BL B4 E4 O4 hbw hpw hO hE Bp
    have hO := hidden (show V6.ownsRow ib 25 2 (.slice a6 4 c6) 4 (([(0, a), (0, b), (op, 0), (35, 3)] : List (Int × Int)).flatMap cI) from O5)
    have hE := hidden E5
    have Bp := hidden (show Blk V6 p 29 [.slice none 0 0, .int .i64 0, .slice a6 4 c6] from B5)
    clear O5 E5 B5
    have hC := hidden (show Cod V6 (.slice a6 4 c6) (calC op a b) by unfold Cod; rw [hcC.out, if_neg (by have := h21.out; omega)]; exact Rd.of_own hO.out)
    clear hO
    have hapc := hidden (hap.out V6)
    go_wp2_with fail
    refine (hapc.out).mono ?_
    rintro x w7 ⟨rfl, hX⟩
    replace Bp := hidden (Bp.out.ext hX)
    replace hC := hidden ((Rd.ext hC.out hX : Cod _ _ _))
    replace hE := hidden (hE.out.trans hX)
    clear hX hapc hap
    have cp0 := Bp.out.cell 0 _ rfl
    have cp1 := Bp.out.cell 1 _ rfl
    have cp2 := Bp.out.cell 2 _ rfl
    have hfe := hidden (ifeed_any (.slice none 0 0) (.slice a6 4 c6) (.slice none 0 0) [] 0 (calC op a b) [] 10 oka_nil hoki.out (by decide) (by decide) (by decide) (by decide) (fun _ h => by cases h) w7 (rd_none _ _) hC.out (rd_none _ _))
    rw [hfd.out] at hfe
    by_cases he : e = 0
    · subst he
      rw [show calR op n 0 = .ok ([], z16.set 3 n, [], 4) by unfold calR; rw [if_neg (by decide), if_neg (by have := h21.out; omega)]] at hfe
      replace hfe := hidden (cal_ok hfe.out)
      go_wp2_with fail
      refine (hfe.out).mono ?_
      rintro x w8 ⟨ra, rc, ro, rfl, hM, hRo, hX⟩
      clear cp0 cp1 cp2
      obtain ⟨ar, cr, ax, cx, rfl, rfl⟩ := hM.shape 0 16 rfl (by simp)
      obtain ⟨ao, co, rfl, -⟩ := Rd.shape (show Rd w8 1 ro 0 _ from hRo)
      clear hRo hfe hC
      replace Bp := hidden (Bp.out.ext hX)
      replace hE := hidden (hE.out.trans hX)
      clear hX
      obtain ⟨vs, -, -, hx32⟩ := hM
      have hx2 := hidden (show Rd w8 1 (.slice ax 16 cx) 16 ((z16.set 3 n).map (Value.int .u32)) by have := hx32; unfold R32 at this; simpa using this)
      clear hx32
      obtain ⟨r, hr⟩ : ∃ p, w8.heap.size = p := ⟨_, rfl⟩
      have XN := (Ext.refl w8).alloc (.cells #[.slice ar 0 cr, .slice ax 16 cx, .slice ao 0 co, .int .i64 4] 39)
      have BN := blk_at1 w8 [.slice ar 0 cr, .slice ax 16 cx, .slice ao 0 co, .int .i64 4] 39 r hr
      obtain ⟨V8, hV8V⟩ : ∃ V, w8.alloc (.cells #[.slice ar 0 cr, .slice ax 16 cx, .slice ao 0 co, .int .i64 4] 39) = V := ⟨_, rfl⟩
      rw [show (w8.alloc (.cells ([.slice ar 0 cr, .slice ax 16 cx, .slice ao 0 co, .int .i64 4] : List Value).toArray 39)) = V8 from hV8V] at BN
      rw [hV8V] at XN
      replace Bp := hidden (Bp.out.ext XN)
      replace hx2 := hidden (Rd.ext hx2.out XN)
      replace hE := hidden (hE.out.trans XN)
      have Br := hidden BN
      clear BN
      clear XN
      replace hV8V := hidden hV8V
      go_upto_region 9 with fail
      rw [hV8V.out]
      clear hV8V hr
      obtain ⟨xb, xo, rfl, -, -⟩ := Rd.cells hx2.out (show 0 < 16 by decide)
      have x3 := rd_at hx2.out 3 (.int .u32 n) (by simp [z16, List.replicate])
      have cp0 := Bp.out.cell 0 _ rfl
      have cp1 := Bp.out.cell 1 _ rfl
      have cp2 := Bp.out.cell 2 _ rfl
      have cr0 := Br.out.cell 0 _ rfl
      have cr1 := Br.out.cell 1 _ rfl
      have cr2 := Br.out.cell 2 _ rfl
      have cr3 := Br.out.cell 3 _ rfl
      go_wp2_with fail
      refine (haw.out _).mono ?_
      rintro x wz ⟨rfl, hX⟩
      go_wp2_with fail
      go_ret
      exact ⟨rfl, hE.out.trans hX⟩
    · rw [show calR op n e = .error e by unfold calR; rw [if_pos he]] at hfe
      have he' : (e != 0) = true := by simpa using he
      replace he := hidden he
      replace hfe := hidden (cal_err hfe.out)
      go_wp2_with fail
      refine (hfe.out).mono ?_
      rintro x w8 ⟨rfl, hX⟩
      clear cp0 cp1 cp2
      replace hE := hidden (hE.out.trans (hX.trans ((Ext.refl w8).alloc (.cells #[.slice none 0 0, .slice none 0 0, .slice none 0 0, .int .i64 0] 39))))
      clear hX hfe hC
      go_wp2_with fail
      refine (haw.out _).mono ?_
      rintro x wz ⟨rfl, hX⟩
      go_wp2_with fail
      go_ret
      exact ⟨rfl, hE.out.trans hX⟩
end Go.Proofs.Ytgjjklajipekdaa
