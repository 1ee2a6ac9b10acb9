/- Exactly one of the two branches of an if is executed: for all numbers, with an else and without. -/
import Derived.Test.YtgjjklajipekdaaGreatYzu
namespace Go.Proofs.YtgjjklajipekdaaGreat
open Go.RowKit
set_option linter.unusedVariables false
set_option linter.unusedSimpArgs false
attribute [local go_sem ↓] Go.wp_at_zero Go.wp_at_succ

set_option maxHeartbeats 4000000 in
set_option maxRecDepth 100000 in
theorem InterpreterChooses_law (a b : Int) (both : Bool) (ha0 : 0 ≤ a) (ha1 : a ≤ 255) (hb0 : 0 ≤ b) (hb1 : b ≤ 255) (w : World) :
    Calls Tryz.prog 9 #[.int .u8 a, .int .u8 b, .bool both] w fun x w' => x = .returned (.bool true) ∧ Ext w w' := by
  have haw := hidden awake_any
  have hbw : IntKind.i64.wrap b = b := IntWalk.i64_in _ (by omega)
  have haw32 : IntKind.u32.wrap a = a := by rw [IntKind.wrap_u32]; omega
  have hE := hidden (Ext.refl w)
  have XL := (Ext.refl w).alloc (.cells #[.int .i64 32, .int .i64 0, .int .i64 0, .int .i64 b, .int .i64 22, .int .i64 0, .int .i64 27, .int .i64 0, .int .i64 0, .int .i64 1, .int .i64 34, .int .i64 0] 3)
  have hR : Rd _ 1 _ 12 _ := rd_newc w [.int .i64 32, .int .i64 0, .int .i64 0, .int .i64 b, .int .i64 22, .int .i64 0, .int .i64 27, .int .i64 0, .int .i64 0, .int .i64 1, .int .i64 34, .int .i64 0] 3 1 12 rfl (by decide)
  have hcl := hidden (lcode_any 0 _ [(32, 0), (0, b), (22, 0), (27, 0), (0, 1), (34, 0)] (by intro x hx; simp only [List.mem_cons, List.not_mem_nil, or_false] at hx; rcases hx with rfl | rfl | rfl | rfl | rfl | rfl <;> exact ⟨by first | exact hb0 | decide, by first | (show b ≤ 4294967295; omega) | decide⟩) (by simp) _ (show Rd _ 1 _ (2 * ([(32, 0), (0, b), (22, 0), (27, 0), (0, 1), (34, 0)] : List (Int × Int)).length) (([(32, 0), (0, b), (22, 0), (27, 0), (0, 1), (34, 0)] : List (Int × Int)).flatMap cL) from hR))
  replace XL := hidden XL
  clear hR
  go_enter Tryz.func9, Tryz.ntmps9
  go_wp2_with fail
  refine hcl.out.mono ?_
  rintro x w1 ⟨vc, rfl, hO, hX⟩
  obtain ⟨ac, cc, rfl, -⟩ := own_shape (show World.ownsRow _ _ 63 2 vc 6 _ from hO)
  have hC := hidden (show Cod w1 (.slice ac 6 cc) [(32, 0), (0, b), (22, 0), (27, 0), (0, 1), (34, 0)] from Rd.of_own hO)
  replace hX := XL.out.trans hX
  replace hE := hidden (hE.out.trans hX)
  have hps := hX.size
  replace hps := hidden hps
  clear hX hO hcl XL
  obtain ⟨p, hp⟩ : ∃ p, w1.heap.size = p := ⟨_, rfl⟩
  have XN := (Ext.refl w1).alloc (.cells #[.slice none 0 0, .int .i64 0, .slice ac 6 cc] 25)
  have BN := blk_at1 w1 [.slice none 0 0, .int .i64 0, .slice ac 6 cc] 25 p hp
  obtain ⟨V1, hV1V⟩ : ∃ V, w1.alloc (.cells #[.slice none 0 0, .int .i64 0, .slice ac 6 cc] 25) = V := ⟨_, rfl⟩
  rw [show (w1.alloc (.cells ([.slice none 0 0, .int .i64 0, .slice ac 6 cc] : List Value).toArray 25)) = V1 from hV1V] at BN
  rw [hV1V] at XN
  replace hC := hidden (Rd.ext hC.out XN)
  replace hE := hidden (hE.out.trans XN)
  have Bp := hidden BN
  clear BN
  clear XN
  replace hV1V := hidden hV1V
  have hpw := hidden (show w.heap.size ≤ p by have := hps.out; omega)
  clear hps
  go_upto_region 2 with fail
  rw [hV1V.out]
  clear hV1V hp
  have hlen : Hid (([(32, 0), (0, b), (22, 0), (27, 0), (0, 1), (34, 0)] : List (Int × Int)).length = 6) := hidden rfl
  cases both with
  | false =>
    go_upto_region 4 with fail
    refine chreg4 _ _ _ _ _ _ _ _ _ _ _ _ _ _ _ _ _ _ _ _ _ _ _ _ _ _ _ _ _ _ _ _ _ _ _ _ _ _ _ _ _ _ _ _ _ _ _ _ _ _ _ _ _ _ _ _ _ _ _ _ _ _ _ _ _ _ _ _ _ _ _ _ _ _ _ _ _ _ (fun _ _ _ _ _ h => h) Bp hC hlen (by omega) ?_
    intro a4 c4 w4 u40 u41 u42 u43 hO hX B
    have hE2 := (hE.out.trans hX).setCell (p := ⟨p, 2, none⟩) hpw.out (.slice a4 (6 + 3) c4)
    have hO2 := own_low hO ((Chg.refl [p] w4).setCell (p := ⟨p, 2, none⟩) (Or.inl (by simp)) (.slice a4 (6 + 3) c4)) (fun x hx => by rw [List.mem_singleton.1 hx]; omega)
    have hB2 := B.set 2 (.slice a4 (6 + 3) c4)
    obtain ⟨V4, hV4V⟩ : ∃ V, w4.setCell ⟨p, 2, none⟩ (.slice a4 (6 + 3) c4) = V := ⟨_, rfl⟩
    rw [hV4V] at hE2 hO2 hB2 ⊢
    clear hV4V hO hX B
    obtain ⟨n4, hn4⟩ : ∃ n, 6 + 3 = n := ⟨_, rfl⟩
    have hlen2 : Hid (([(32, 0), (0, b), (22, 0), (27, 0), (0, 1), (34, 0)] ++ [(31, 0), (0, 3), (34, 0)] : List (Int × Int)).length = n4) := hidden (by rw [← hn4, List.length_append, hlen.out]; rfl)
    have hnb4 : n4 ≤ 440 := by omega
    rw [hn4] at hO2 hB2 ⊢
    have hC2 : Hid (Cod V4 (.slice a4 n4 c4) ([(32, 0), (0, b), (22, 0), (27, 0), (0, 1), (34, 0)] ++ [(31, 0), (0, 3), (34, 0)])) := hidden (by unfold Cod; rw [hlen2.out]; exact Rd.of_own hO2)
    clear hC hlen hE Bp hO2 hn4
    have hE := hidden hE2
    have hC := hC2
    have hlen := hlen2
    have Bp := hidden hB2
    clear hE2 hC2 hlen2 hB2
    by_cases hab : a < b
    · have hab' : decide (a < b) = true := by simpa using hab
      replace hab := hidden hab
      replace hC := hidden (show Cod V4 (.slice a4 n4 c4) (chC b false) from hC.out)
      have cp0 := Bp.out.cell 0 _ rfl
      have cp1 := Bp.out.cell 1 _ rfl
      have cp2 := Bp.out.cell 2 _ rfl
      have hst := hidden (istart2_any (.slice none 0 0) (.slice a4 n4 c4) [] 0 (chC b false) oka_nil (oki_ch b false hb0 (by omega)) (by decide) (by decide) (form_ch b false (by omega)) V4 (rd_none _ _) hC.out)
      go_wp2_with fail
      refine (hst.out).mono ?_
      rintro x w5 ⟨ma, mc, rfl, hM, hX⟩
      clear cp0 cp1 cp2
      obtain ⟨am, cm, ax, cx, rfl, rfl⟩ := hM.shape 0 16 rfl rfl
      replace Bp := hidden (Bp.out.ext hX)
      replace hC := hidden (Rd.ext hC.out hX)
      replace hE := hidden (hE.out.trans hX)
      replace hM := hidden (show MemR w5 _ _ [] z16 from hM)
      clear hX hst
      obtain ⟨m, hm⟩ : ∃ p, w5.heap.size = p := ⟨_, rfl⟩
      have XN := (Ext.refl w5).alloc (.cells #[.slice am 0 cm, .slice ax 16 cx] 29)
      have BN := blk_at1 w5 [.slice am 0 cm, .slice ax 16 cx] 29 m hm
      obtain ⟨V5, hV5V⟩ : ∃ V, w5.alloc (.cells #[.slice am 0 cm, .slice ax 16 cx] 29) = V := ⟨_, rfl⟩
      rw [show (w5.alloc (.cells ([.slice am 0 cm, .slice ax 16 cx] : List Value).toArray 29)) = V5 from hV5V] at BN
      rw [hV5V] at XN
      replace Bp := hidden (Bp.out.ext XN)
      replace hC := hidden (Rd.ext hC.out XN)
      replace hM := hidden (hM.out.ext XN)
      replace hE := hidden (hE.out.trans XN)
      have Bm := hidden BN
      clear BN
      clear XN
      replace hV5V := hidden hV5V
      go_upto_region 6 with fail
      rw [hV5V.out]
      clear hV5V hm
      have cp0 := Bp.out.cell 0 _ rfl
      have cp1 := Bp.out.cell 1 _ rfl
      have cp2 := Bp.out.cell 2 _ rfl
      have cm0 := Bm.out.cell 0 _ rfl
      have cm1 := Bm.out.cell 1 _ rfl
      have hru := hidden (irun2_any (.slice none 0 0) (.slice a4 n4 c4) (.slice am 0 cm) (.slice ax 16 cx) [] 0 (chC b false) [] z16 a false 8 oka_nil (oki_ch b false hb0 (by omega)) (by decide) (by decide) (by decide) (by decide) ⟨ha0, by omega⟩ (fun _ h => by cases h) (u32_zeros 16) (fun _ h => by cases h) V5 (rd_none _ _) hC.out hM.out)
      rw [ch_run a b false ⟨ha0, by omega⟩ hb0 (by omega), show wantC a b false = [1, 3] by unfold wantC; rw [if_pos hab.out]] at hru
      have hlw : (4 + 2 * (([1, 3] : List Int).length : Int)) = 8 := by decide
      rw [hlw] at hru
      clear hlw
      replace hru := hidden (cal_ok hru.out)
      go_wp2_with fail
      refine (hru.out).mono ?_
      rintro x w6 ⟨ra, rc, ro, rfl, hRm, hRo, hX⟩
      clear cp0 cp1 cp2 cm0 cm1
      obtain ⟨ar, cr, az, cz, rfl, rfl⟩ := hRm.shape 0 16 rfl rfl
      obtain ⟨ao, co, rfl, -⟩ := Rd.shape (show Rd w6 1 ro 2 _ from hRo)
      clear hRm
      replace Bp := hidden (Bp.out.ext hX)
      replace Bm := hidden (Bm.out.ext hX)
      replace hC := hidden (Rd.ext hC.out hX)
      replace hM := hidden (hM.out.ext hX)
      replace hE := hidden (hE.out.trans hX)
      replace hRo := hidden (show Rd w6 1 (.slice ao 2 co) 2 (([1, 3] : List Int).map (Value.int .u8)) from hRo)
      clear hX hru hC hM Bp Bm
      obtain ⟨r, hr⟩ : ∃ p, w6.heap.size = p := ⟨_, rfl⟩
      have XN := (Ext.refl w6).alloc (.cells #[.slice ar 0 cr, .slice az 16 cz, .slice ao 2 co, .int .i64 8] 48)
      have BN := blk_at1 w6 [.slice ar 0 cr, .slice az 16 cz, .slice ao 2 co, .int .i64 8] 48 r hr
      obtain ⟨V6, hV6V⟩ : ∃ V, w6.alloc (.cells #[.slice ar 0 cr, .slice az 16 cz, .slice ao 2 co, .int .i64 8] 48) = V := ⟨_, rfl⟩
      rw [show (w6.alloc (.cells ([.slice ar 0 cr, .slice az 16 cz, .slice ao 2 co, .int .i64 8] : List Value).toArray 48)) = V6 from hV6V] at BN
      rw [hV6V] at XN
      replace hRo := hidden (Rd.ext hRo.out XN)
      replace hE := hidden (hE.out.trans XN)
      have Br := hidden BN
      clear BN
      clear XN
      replace hV6V := hidden hV6V
      go_upto_region 7 with fail
      rw [hV6V.out]
      clear hV6V hr
      obtain ⟨d, hd⟩ : ∃ p, V6.heap.size = p := ⟨_, rfl⟩
      have XN := (Ext.refl V6).alloc (.cells #[.int .u8 3] 5)
      have BN := blk_at1 V6 [.int .u8 3] 5 d hd
      obtain ⟨V7, hV7V⟩ : ∃ V, V6.alloc (.cells #[.int .u8 3] 5) = V := ⟨_, rfl⟩
      rw [show (V6.alloc (.cells ([.int .u8 3] : List Value).toArray 5)) = V7 from hV7V] at BN
      rw [hV7V] at XN
      replace Br := hidden (Br.out.ext XN)
      replace hRo := hidden (Rd.ext hRo.out XN)
      replace hE := hidden (hE.out.trans XN)
      have Bd := hidden BN
      clear BN
      clear XN
      replace hV7V := hidden hV7V
      go_upto_region 8 with fail
      rw [hV7V.out]
      clear hV7V hd
      obtain ⟨f, hf⟩ : ∃ p, V7.heap.size = p := ⟨_, rfl⟩
      have XN := (Ext.refl V7).alloc (.cells #[.int .u8 1, .int .u8 3] 5)
      have BN := blk_at1 V7 [.int .u8 1, .int .u8 3] 5 f hf
      obtain ⟨V8, hV8V⟩ : ∃ V, V7.alloc (.cells #[.int .u8 1, .int .u8 3] 5) = V := ⟨_, rfl⟩
      rw [show (V7.alloc (.cells ([.int .u8 1, .int .u8 3] : List Value).toArray 5)) = V8 from hV8V] at BN
      rw [hV8V] at XN
      replace Br := hidden (Br.out.ext XN)
      replace Bd := hidden (Bd.out.ext XN)
      replace hRo := hidden (Rd.ext hRo.out XN)
      replace hE := hidden (hE.out.trans XN)
      have Bf := hidden BN
      clear BN
      clear XN
      replace hV8V := hidden hV8V
      go_upto_region 12 with fail
      rw [hV8V.out]
      clear hV8V hf
      have cr0 := Br.out.cell 0 _ rfl
      have cr1 := Br.out.cell 1 _ rfl
      have cr2 := Br.out.cell 2 _ rfl
      have cr3 := Br.out.cell 3 _ rfl
      have heq := eq8_any (.slice ao 2 co) (.slice (some ⟨f, 0, none⟩) 2 2) [1, 3] [1, 3] V8 hRo.out (rd_blkY Bf.out rfl (by decide))
      simp only [decide_true] at heq
      replace heq := hidden heq
      go_wp2_with fail
      refine (heq.out).mono ?_
      rintro x w9 ⟨rfl, hX⟩
      clear cr0 cr1 cr2 cr3
      replace Br := hidden (Br.out.ext hX)
      replace Bd := hidden (Bd.out.ext hX)
      replace Bf := hidden (Bf.out.ext hX)
      replace hRo := hidden (Rd.ext hRo.out hX)
      replace hE := hidden (hE.out.trans hX)
      clear hX heq
      have cr0 := Br.out.cell 0 _ rfl
      have cr1 := Br.out.cell 1 _ rfl
      have cr2 := Br.out.cell 2 _ rfl
      have cr3 := Br.out.cell 3 _ rfl
      go_wp2_with fail
      refine (haw.out _).mono ?_
      rintro x wz ⟨rfl, hX⟩
      go_wp2_with fail
      go_ret
      exact ⟨rfl, hE.out.trans hX⟩
    · have hab' : decide (a < b) = false := by simpa using hab
      replace hab := hidden hab
      replace hC := hidden (show Cod V4 (.slice a4 n4 c4) (chC b false) from hC.out)
      have cp0 := Bp.out.cell 0 _ rfl
      have cp1 := Bp.out.cell 1 _ rfl
      have cp2 := Bp.out.cell 2 _ rfl
      have hst := hidden (istart2_any (.slice none 0 0) (.slice a4 n4 c4) [] 0 (chC b false) oka_nil (oki_ch b false hb0 (by omega)) (by decide) (by decide) (form_ch b false (by omega)) V4 (rd_none _ _) hC.out)
      go_wp2_with fail
      refine (hst.out).mono ?_
      rintro x w5 ⟨ma, mc, rfl, hM, hX⟩
      clear cp0 cp1 cp2
      obtain ⟨am, cm, ax, cx, rfl, rfl⟩ := hM.shape 0 16 rfl rfl
      replace Bp := hidden (Bp.out.ext hX)
      replace hC := hidden (Rd.ext hC.out hX)
      replace hE := hidden (hE.out.trans hX)
      replace hM := hidden (show MemR w5 _ _ [] z16 from hM)
      clear hX hst
      obtain ⟨m, hm⟩ : ∃ p, w5.heap.size = p := ⟨_, rfl⟩
      have XN := (Ext.refl w5).alloc (.cells #[.slice am 0 cm, .slice ax 16 cx] 29)
      have BN := blk_at1 w5 [.slice am 0 cm, .slice ax 16 cx] 29 m hm
      obtain ⟨V5, hV5V⟩ : ∃ V, w5.alloc (.cells #[.slice am 0 cm, .slice ax 16 cx] 29) = V := ⟨_, rfl⟩
      rw [show (w5.alloc (.cells ([.slice am 0 cm, .slice ax 16 cx] : List Value).toArray 29)) = V5 from hV5V] at BN
      rw [hV5V] at XN
      replace Bp := hidden (Bp.out.ext XN)
      replace hC := hidden (Rd.ext hC.out XN)
      replace hM := hidden (hM.out.ext XN)
      replace hE := hidden (hE.out.trans XN)
      have Bm := hidden BN
      clear BN
      clear XN
      replace hV5V := hidden hV5V
      go_upto_region 6 with fail
      rw [hV5V.out]
      clear hV5V hm
      have cp0 := Bp.out.cell 0 _ rfl
      have cp1 := Bp.out.cell 1 _ rfl
      have cp2 := Bp.out.cell 2 _ rfl
      have cm0 := Bm.out.cell 0 _ rfl
      have cm1 := Bm.out.cell 1 _ rfl
      have hru := hidden (irun2_any (.slice none 0 0) (.slice a4 n4 c4) (.slice am 0 cm) (.slice ax 16 cx) [] 0 (chC b false) [] z16 a false 8 oka_nil (oki_ch b false hb0 (by omega)) (by decide) (by decide) (by decide) (by decide) ⟨ha0, by omega⟩ (fun _ h => by cases h) (u32_zeros 16) (fun _ h => by cases h) V5 (rd_none _ _) hC.out hM.out)
      rw [ch_run a b false ⟨ha0, by omega⟩ hb0 (by omega), show wantC a b false = [3] by unfold wantC; rw [if_neg (by have := hab.out; omega)]; rfl] at hru
      have hlw : (4 + 2 * (([3] : List Int).length : Int)) = 6 := by decide
      rw [hlw] at hru
      clear hlw
      replace hru := hidden (cal_ok hru.out)
      go_wp2_with fail
      refine (hru.out).mono ?_
      rintro x w6 ⟨ra, rc, ro, rfl, hRm, hRo, hX⟩
      clear cp0 cp1 cp2 cm0 cm1
      obtain ⟨ar, cr, az, cz, rfl, rfl⟩ := hRm.shape 0 16 rfl rfl
      obtain ⟨ao, co, rfl, -⟩ := Rd.shape (show Rd w6 1 ro 1 _ from hRo)
      clear hRm
      replace Bp := hidden (Bp.out.ext hX)
      replace Bm := hidden (Bm.out.ext hX)
      replace hC := hidden (Rd.ext hC.out hX)
      replace hM := hidden (hM.out.ext hX)
      replace hE := hidden (hE.out.trans hX)
      replace hRo := hidden (show Rd w6 1 (.slice ao 1 co) 1 (([3] : List Int).map (Value.int .u8)) from hRo)
      clear hX hru hC hM Bp Bm
      obtain ⟨r, hr⟩ : ∃ p, w6.heap.size = p := ⟨_, rfl⟩
      have XN := (Ext.refl w6).alloc (.cells #[.slice ar 0 cr, .slice az 16 cz, .slice ao 1 co, .int .i64 6] 48)
      have BN := blk_at1 w6 [.slice ar 0 cr, .slice az 16 cz, .slice ao 1 co, .int .i64 6] 48 r hr
      obtain ⟨V6, hV6V⟩ : ∃ V, w6.alloc (.cells #[.slice ar 0 cr, .slice az 16 cz, .slice ao 1 co, .int .i64 6] 48) = V := ⟨_, rfl⟩
      rw [show (w6.alloc (.cells ([.slice ar 0 cr, .slice az 16 cz, .slice ao 1 co, .int .i64 6] : List Value).toArray 48)) = V6 from hV6V] at BN
      rw [hV6V] at XN
      replace hRo := hidden (Rd.ext hRo.out XN)
      replace hE := hidden (hE.out.trans XN)
      have Br := hidden BN
      clear BN
      clear XN
      replace hV6V := hidden hV6V
      go_upto_region 7 with fail
      rw [hV6V.out]
      clear hV6V hr
      obtain ⟨d, hd⟩ : ∃ p, V6.heap.size = p := ⟨_, rfl⟩
      have XN := (Ext.refl V6).alloc (.cells #[.int .u8 3] 5)
      have BN := blk_at1 V6 [.int .u8 3] 5 d hd
      obtain ⟨V7, hV7V⟩ : ∃ V, V6.alloc (.cells #[.int .u8 3] 5) = V := ⟨_, rfl⟩
      rw [show (V6.alloc (.cells ([.int .u8 3] : List Value).toArray 5)) = V7 from hV7V] at BN
      rw [hV7V] at XN
      replace Br := hidden (Br.out.ext XN)
      replace hRo := hidden (Rd.ext hRo.out XN)
      replace hE := hidden (hE.out.trans XN)
      have Bd := hidden BN
      clear BN
      clear XN
      replace hV7V := hidden hV7V
      go_upto_region 8 with fail
      rw [hV7V.out]
      clear hV7V hd
      go_upto_region 12 with fail
      have cr0 := Br.out.cell 0 _ rfl
      have cr1 := Br.out.cell 1 _ rfl
      have cr2 := Br.out.cell 2 _ rfl
      have cr3 := Br.out.cell 3 _ rfl
      have heq := eq8_any (.slice ao 1 co) (.slice (some ⟨d, 0, none⟩) 1 1) [3] [3] V7 hRo.out (rd_blkY Bd.out rfl (by decide))
      simp only [decide_true] at heq
      replace heq := hidden heq
      go_wp2_with fail
      refine (heq.out).mono ?_
      rintro x w9 ⟨rfl, hX⟩
      clear cr0 cr1 cr2 cr3
      replace Br := hidden (Br.out.ext hX)
      replace Bd := hidden (Bd.out.ext hX)
      replace hRo := hidden (Rd.ext hRo.out hX)
      replace hE := hidden (hE.out.trans hX)
      clear hX heq
      have cr0 := Br.out.cell 0 _ rfl
      have cr1 := Br.out.cell 1 _ rfl
      have cr2 := Br.out.cell 2 _ rfl
      have cr3 := Br.out.cell 3 _ rfl
      go_wp2_with fail
      refine (haw.out _).mono ?_
      rintro x wz ⟨rfl, hX⟩
      go_wp2_with fail
      go_ret
      exact ⟨rfl, hE.out.trans hX⟩
  | true =>
    go_upto_region 3 with fail
    refine chreg3 _ _ _ _ _ _ _ _ _ _ _ _ _ _ _ _ _ _ _ _ _ _ _ _ _ _ _ _ _ _ _ _ _ _ _ _ _ _ _ _ _ _ _ _ _ _ _ _ _ _ _ _ _ _ _ _ _ _ _ _ _ _ _ _ _ _ _ _ _ _ _ _ _ _ _ _ _ _ (fun _ _ _ _ _ h => h) Bp hC hlen (by omega) ?_
    intro a3 c3 w3 u30 u31 u32 u33 hO hX B
    have hE2 := (hE.out.trans hX).setCell (p := ⟨p, 2, none⟩) hpw.out (.slice a3 (6 + 3) c3)
    have hO2 := own_low hO ((Chg.refl [p] w3).setCell (p := ⟨p, 2, none⟩) (Or.inl (by simp)) (.slice a3 (6 + 3) c3)) (fun x hx => by rw [List.mem_singleton.1 hx]; omega)
    have hB2 := B.set 2 (.slice a3 (6 + 3) c3)
    obtain ⟨V3, hV3V⟩ : ∃ V, w3.setCell ⟨p, 2, none⟩ (.slice a3 (6 + 3) c3) = V := ⟨_, rfl⟩
    rw [hV3V] at hE2 hO2 hB2 ⊢
    clear hV3V hO hX B
    obtain ⟨n3, hn3⟩ : ∃ n, 6 + 3 = n := ⟨_, rfl⟩
    have hlen2 : Hid (([(32, 0), (0, b), (22, 0), (27, 0), (0, 1), (34, 0)] ++ [(28, 0), (0, 2), (34, 0)] : List (Int × Int)).length = n3) := hidden (by rw [← hn3, List.length_append, hlen.out]; rfl)
    have hnb3 : n3 ≤ 430 := by omega
    rw [hn3] at hO2 hB2 ⊢
    have hC2 : Hid (Cod V3 (.slice a3 n3 c3) ([(32, 0), (0, b), (22, 0), (27, 0), (0, 1), (34, 0)] ++ [(28, 0), (0, 2), (34, 0)])) := hidden (by unfold Cod; rw [hlen2.out]; exact Rd.of_own hO2)
    clear hC hlen hE Bp hO2 hn3
    have hE := hidden hE2
    have hC := hC2
    have hlen := hlen2
    have Bp := hidden hB2
    clear hE2 hC2 hlen2 hB2
    go_upto_region 4 with fail
    refine chreg4 _ _ _ _ _ _ _ _ _ _ _ _ _ _ _ _ _ _ _ _ _ _ _ _ _ _ _ _ _ _ _ _ _ _ _ _ _ _ _ _ _ _ _ _ _ _ _ _ _ _ _ _ _ _ _ _ _ _ _ _ _ _ _ _ _ _ _ _ _ _ _ _ _ _ _ _ _ _ (fun _ _ _ _ _ h => h) Bp hC hlen (by omega) ?_
    intro a4 c4 w4 u40 u41 u42 u43 hO hX B
    have hE2 := (hE.out.trans hX).setCell (p := ⟨p, 2, none⟩) hpw.out (.slice a4 (n3 + 3) c4)
    have hO2 := own_low hO ((Chg.refl [p] w4).setCell (p := ⟨p, 2, none⟩) (Or.inl (by simp)) (.slice a4 (n3 + 3) c4)) (fun x hx => by rw [List.mem_singleton.1 hx]; omega)
    have hB2 := B.set 2 (.slice a4 (n3 + 3) c4)
    obtain ⟨V4, hV4V⟩ : ∃ V, w4.setCell ⟨p, 2, none⟩ (.slice a4 (n3 + 3) c4) = V := ⟨_, rfl⟩
    rw [hV4V] at hE2 hO2 hB2 ⊢
    clear hV4V hO hX B
    obtain ⟨n4, hn4⟩ : ∃ n, n3 + 3 = n := ⟨_, rfl⟩
    have hlen2 : Hid ((([(32, 0), (0, b), (22, 0), (27, 0), (0, 1), (34, 0)] ++ [(28, 0), (0, 2), (34, 0)]) ++ [(31, 0), (0, 3), (34, 0)] : List (Int × Int)).length = n4) := hidden (by rw [← hn4, List.length_append, hlen.out]; rfl)
    have hnb4 : n4 ≤ 440 := by omega
    rw [hn4] at hO2 hB2 ⊢
    have hC2 : Hid (Cod V4 (.slice a4 n4 c4) (([(32, 0), (0, b), (22, 0), (27, 0), (0, 1), (34, 0)] ++ [(28, 0), (0, 2), (34, 0)]) ++ [(31, 0), (0, 3), (34, 0)])) := hidden (by unfold Cod; rw [hlen2.out]; exact Rd.of_own hO2)
    clear hC hlen hE Bp hO2 hn4
    have hE := hidden hE2
    have hC := hC2
    have hlen := hlen2
    have Bp := hidden hB2
    clear hE2 hC2 hlen2 hB2
    by_cases hab : a < b
    · have hab' : decide (a < b) = true := by simpa using hab
      replace hab := hidden hab
      replace hC := hidden (show Cod V4 (.slice a4 n4 c4) (chC b true) from hC.out)
      have cp0 := Bp.out.cell 0 _ rfl
      have cp1 := Bp.out.cell 1 _ rfl
      have cp2 := Bp.out.cell 2 _ rfl
      have hst := hidden (istart2_any (.slice none 0 0) (.slice a4 n4 c4) [] 0 (chC b true) oka_nil (oki_ch b true hb0 (by omega)) (by decide) (by decide) (form_ch b true (by omega)) V4 (rd_none _ _) hC.out)
      go_wp2_with fail
      refine (hst.out).mono ?_
      rintro x w5 ⟨ma, mc, rfl, hM, hX⟩
      clear cp0 cp1 cp2
      obtain ⟨am, cm, ax, cx, rfl, rfl⟩ := hM.shape 0 16 rfl rfl
      replace Bp := hidden (Bp.out.ext hX)
      replace hC := hidden (Rd.ext hC.out hX)
      replace hE := hidden (hE.out.trans hX)
      replace hM := hidden (show MemR w5 _ _ [] z16 from hM)
      clear hX hst
      obtain ⟨m, hm⟩ : ∃ p, w5.heap.size = p := ⟨_, rfl⟩
      have XN := (Ext.refl w5).alloc (.cells #[.slice am 0 cm, .slice ax 16 cx] 29)
      have BN := blk_at1 w5 [.slice am 0 cm, .slice ax 16 cx] 29 m hm
      obtain ⟨V5, hV5V⟩ : ∃ V, w5.alloc (.cells #[.slice am 0 cm, .slice ax 16 cx] 29) = V := ⟨_, rfl⟩
      rw [show (w5.alloc (.cells ([.slice am 0 cm, .slice ax 16 cx] : List Value).toArray 29)) = V5 from hV5V] at BN
      rw [hV5V] at XN
      replace Bp := hidden (Bp.out.ext XN)
      replace hC := hidden (Rd.ext hC.out XN)
      replace hM := hidden (hM.out.ext XN)
      replace hE := hidden (hE.out.trans XN)
      have Bm := hidden BN
      clear BN
      clear XN
      replace hV5V := hidden hV5V
      go_upto_region 6 with fail
      rw [hV5V.out]
      clear hV5V hm
      have cp0 := Bp.out.cell 0 _ rfl
      have cp1 := Bp.out.cell 1 _ rfl
      have cp2 := Bp.out.cell 2 _ rfl
      have cm0 := Bm.out.cell 0 _ rfl
      have cm1 := Bm.out.cell 1 _ rfl
      have hru := hidden (irun2_any (.slice none 0 0) (.slice a4 n4 c4) (.slice am 0 cm) (.slice ax 16 cx) [] 0 (chC b true) [] z16 a false 8 oka_nil (oki_ch b true hb0 (by omega)) (by decide) (by decide) (by decide) (by decide) ⟨ha0, by omega⟩ (fun _ h => by cases h) (u32_zeros 16) (fun _ h => by cases h) V5 (rd_none _ _) hC.out hM.out)
      rw [ch_run a b true ⟨ha0, by omega⟩ hb0 (by omega), show wantC a b true = [1, 3] by unfold wantC; rw [if_pos hab.out]] at hru
      have hlw : (4 + 2 * (([1, 3] : List Int).length : Int)) = 8 := by decide
      rw [hlw] at hru
      clear hlw
      replace hru := hidden (cal_ok hru.out)
      go_wp2_with fail
      refine (hru.out).mono ?_
      rintro x w6 ⟨ra, rc, ro, rfl, hRm, hRo, hX⟩
      clear cp0 cp1 cp2 cm0 cm1
      obtain ⟨ar, cr, az, cz, rfl, rfl⟩ := hRm.shape 0 16 rfl rfl
      obtain ⟨ao, co, rfl, -⟩ := Rd.shape (show Rd w6 1 ro 2 _ from hRo)
      clear hRm
      replace Bp := hidden (Bp.out.ext hX)
      replace Bm := hidden (Bm.out.ext hX)
      replace hC := hidden (Rd.ext hC.out hX)
      replace hM := hidden (hM.out.ext hX)
      replace hE := hidden (hE.out.trans hX)
      replace hRo := hidden (show Rd w6 1 (.slice ao 2 co) 2 (([1, 3] : List Int).map (Value.int .u8)) from hRo)
      clear hX hru hC hM Bp Bm
      obtain ⟨r, hr⟩ : ∃ p, w6.heap.size = p := ⟨_, rfl⟩
      have XN := (Ext.refl w6).alloc (.cells #[.slice ar 0 cr, .slice az 16 cz, .slice ao 2 co, .int .i64 8] 48)
      have BN := blk_at1 w6 [.slice ar 0 cr, .slice az 16 cz, .slice ao 2 co, .int .i64 8] 48 r hr
      obtain ⟨V6, hV6V⟩ : ∃ V, w6.alloc (.cells #[.slice ar 0 cr, .slice az 16 cz, .slice ao 2 co, .int .i64 8] 48) = V := ⟨_, rfl⟩
      rw [show (w6.alloc (.cells ([.slice ar 0 cr, .slice az 16 cz, .slice ao 2 co, .int .i64 8] : List Value).toArray 48)) = V6 from hV6V] at BN
      rw [hV6V] at XN
      replace hRo := hidden (Rd.ext hRo.out XN)
      replace hE := hidden (hE.out.trans XN)
      have Br := hidden BN
      clear BN
      clear XN
      replace hV6V := hidden hV6V
      go_upto_region 7 with fail
      rw [hV6V.out]
      clear hV6V hr
      obtain ⟨d, hd⟩ : ∃ p, V6.heap.size = p := ⟨_, rfl⟩
      have XN := (Ext.refl V6).alloc (.cells #[.int .u8 3] 5)
      have BN := blk_at1 V6 [.int .u8 3] 5 d hd
      obtain ⟨V7, hV7V⟩ : ∃ V, V6.alloc (.cells #[.int .u8 3] 5) = V := ⟨_, rfl⟩
      rw [show (V6.alloc (.cells ([.int .u8 3] : List Value).toArray 5)) = V7 from hV7V] at BN
      rw [hV7V] at XN
      replace Br := hidden (Br.out.ext XN)
      replace hRo := hidden (Rd.ext hRo.out XN)
      replace hE := hidden (hE.out.trans XN)
      have Bd := hidden BN
      clear BN
      clear XN
      replace hV7V := hidden hV7V
      go_upto_region 8 with fail
      rw [hV7V.out]
      clear hV7V hd
      obtain ⟨f, hf⟩ : ∃ p, V7.heap.size = p := ⟨_, rfl⟩
      have XN := (Ext.refl V7).alloc (.cells #[.int .u8 1, .int .u8 3] 5)
      have BN := blk_at1 V7 [.int .u8 1, .int .u8 3] 5 f hf
      obtain ⟨V8, hV8V⟩ : ∃ V, V7.alloc (.cells #[.int .u8 1, .int .u8 3] 5) = V := ⟨_, rfl⟩
      rw [show (V7.alloc (.cells ([.int .u8 1, .int .u8 3] : List Value).toArray 5)) = V8 from hV8V] at BN
      rw [hV8V] at XN
      replace Br := hidden (Br.out.ext XN)
      replace Bd := hidden (Bd.out.ext XN)
      replace hRo := hidden (Rd.ext hRo.out XN)
      replace hE := hidden (hE.out.trans XN)
      have Bf := hidden BN
      clear BN
      clear XN
      replace hV8V := hidden hV8V
      go_upto_region 12 with fail
      rw [hV8V.out]
      clear hV8V hf
      have cr0 := Br.out.cell 0 _ rfl
      have cr1 := Br.out.cell 1 _ rfl
      have cr2 := Br.out.cell 2 _ rfl
      have cr3 := Br.out.cell 3 _ rfl
      have heq := eq8_any (.slice ao 2 co) (.slice (some ⟨f, 0, none⟩) 2 2) [1, 3] [1, 3] V8 hRo.out (rd_blkY Bf.out rfl (by decide))
      simp only [decide_true] at heq
      replace heq := hidden heq
      go_wp2_with fail
      refine (heq.out).mono ?_
      rintro x w9 ⟨rfl, hX⟩
      clear cr0 cr1 cr2 cr3
      replace Br := hidden (Br.out.ext hX)
      replace Bd := hidden (Bd.out.ext hX)
      replace Bf := hidden (Bf.out.ext hX)
      replace hRo := hidden (Rd.ext hRo.out hX)
      replace hE := hidden (hE.out.trans hX)
      clear hX heq
      have cr0 := Br.out.cell 0 _ rfl
      have cr1 := Br.out.cell 1 _ rfl
      have cr2 := Br.out.cell 2 _ rfl
      have cr3 := Br.out.cell 3 _ rfl
      go_wp2_with fail
      refine (haw.out _).mono ?_
      rintro x wz ⟨rfl, hX⟩
      go_wp2_with fail
      go_ret
      exact ⟨rfl, hE.out.trans hX⟩
    · have hab' : decide (a < b) = false := by simpa using hab
      replace hab := hidden hab
      replace hC := hidden (show Cod V4 (.slice a4 n4 c4) (chC b true) from hC.out)
      have cp0 := Bp.out.cell 0 _ rfl
      have cp1 := Bp.out.cell 1 _ rfl
      have cp2 := Bp.out.cell 2 _ rfl
      have hst := hidden (istart2_any (.slice none 0 0) (.slice a4 n4 c4) [] 0 (chC b true) oka_nil (oki_ch b true hb0 (by omega)) (by decide) (by decide) (form_ch b true (by omega)) V4 (rd_none _ _) hC.out)
      go_wp2_with fail
      refine (hst.out).mono ?_
      rintro x w5 ⟨ma, mc, rfl, hM, hX⟩
      clear cp0 cp1 cp2
      obtain ⟨am, cm, ax, cx, rfl, rfl⟩ := hM.shape 0 16 rfl rfl
      replace Bp := hidden (Bp.out.ext hX)
      replace hC := hidden (Rd.ext hC.out hX)
      replace hE := hidden (hE.out.trans hX)
      replace hM := hidden (show MemR w5 _ _ [] z16 from hM)
      clear hX hst
      obtain ⟨m, hm⟩ : ∃ p, w5.heap.size = p := ⟨_, rfl⟩
      have XN := (Ext.refl w5).alloc (.cells #[.slice am 0 cm, .slice ax 16 cx] 29)
      have BN := blk_at1 w5 [.slice am 0 cm, .slice ax 16 cx] 29 m hm
      obtain ⟨V5, hV5V⟩ : ∃ V, w5.alloc (.cells #[.slice am 0 cm, .slice ax 16 cx] 29) = V := ⟨_, rfl⟩
      rw [show (w5.alloc (.cells ([.slice am 0 cm, .slice ax 16 cx] : List Value).toArray 29)) = V5 from hV5V] at BN
      rw [hV5V] at XN
      replace Bp := hidden (Bp.out.ext XN)
      replace hC := hidden (Rd.ext hC.out XN)
      replace hM := hidden (hM.out.ext XN)
      replace hE := hidden (hE.out.trans XN)
      have Bm := hidden BN
      clear BN
      clear XN
      replace hV5V := hidden hV5V
      go_upto_region 6 with fail
      rw [hV5V.out]
      clear hV5V hm
      have cp0 := Bp.out.cell 0 _ rfl
      have cp1 := Bp.out.cell 1 _ rfl
      have cp2 := Bp.out.cell 2 _ rfl
      have cm0 := Bm.out.cell 0 _ rfl
      have cm1 := Bm.out.cell 1 _ rfl
      have hru := hidden (irun2_any (.slice none 0 0) (.slice a4 n4 c4) (.slice am 0 cm) (.slice ax 16 cx) [] 0 (chC b true) [] z16 a false 8 oka_nil (oki_ch b true hb0 (by omega)) (by decide) (by decide) (by decide) (by decide) ⟨ha0, by omega⟩ (fun _ h => by cases h) (u32_zeros 16) (fun _ h => by cases h) V5 (rd_none _ _) hC.out hM.out)
      rw [ch_run a b true ⟨ha0, by omega⟩ hb0 (by omega), show wantC a b true = [2, 3] by unfold wantC; rw [if_neg (by have := hab.out; omega)]; rfl] at hru
      have hlw : (4 + 2 * (([2, 3] : List Int).length : Int)) = 8 := by decide
      rw [hlw] at hru
      clear hlw
      replace hru := hidden (cal_ok hru.out)
      go_wp2_with fail
      refine (hru.out).mono ?_
      rintro x w6 ⟨ra, rc, ro, rfl, hRm, hRo, hX⟩
      clear cp0 cp1 cp2 cm0 cm1
      obtain ⟨ar, cr, az, cz, rfl, rfl⟩ := hRm.shape 0 16 rfl rfl
      obtain ⟨ao, co, rfl, -⟩ := Rd.shape (show Rd w6 1 ro 2 _ from hRo)
      clear hRm
      replace Bp := hidden (Bp.out.ext hX)
      replace Bm := hidden (Bm.out.ext hX)
      replace hC := hidden (Rd.ext hC.out hX)
      replace hM := hidden (hM.out.ext hX)
      replace hE := hidden (hE.out.trans hX)
      replace hRo := hidden (show Rd w6 1 (.slice ao 2 co) 2 (([2, 3] : List Int).map (Value.int .u8)) from hRo)
      clear hX hru hC hM Bp Bm
      obtain ⟨r, hr⟩ : ∃ p, w6.heap.size = p := ⟨_, rfl⟩
      have XN := (Ext.refl w6).alloc (.cells #[.slice ar 0 cr, .slice az 16 cz, .slice ao 2 co, .int .i64 8] 48)
      have BN := blk_at1 w6 [.slice ar 0 cr, .slice az 16 cz, .slice ao 2 co, .int .i64 8] 48 r hr
      obtain ⟨V6, hV6V⟩ : ∃ V, w6.alloc (.cells #[.slice ar 0 cr, .slice az 16 cz, .slice ao 2 co, .int .i64 8] 48) = V := ⟨_, rfl⟩
      rw [show (w6.alloc (.cells ([.slice ar 0 cr, .slice az 16 cz, .slice ao 2 co, .int .i64 8] : List Value).toArray 48)) = V6 from hV6V] at BN
      rw [hV6V] at XN
      replace hRo := hidden (Rd.ext hRo.out XN)
      replace hE := hidden (hE.out.trans XN)
      have Br := hidden BN
      clear BN
      clear XN
      replace hV6V := hidden hV6V
      go_upto_region 7 with fail
      rw [hV6V.out]
      clear hV6V hr
      obtain ⟨d, hd⟩ : ∃ p, V6.heap.size = p := ⟨_, rfl⟩
      have XN := (Ext.refl V6).alloc (.cells #[.int .u8 3] 5)
      have BN := blk_at1 V6 [.int .u8 3] 5 d hd
      obtain ⟨V7, hV7V⟩ : ∃ V, V6.alloc (.cells #[.int .u8 3] 5) = V := ⟨_, rfl⟩
      rw [show (V6.alloc (.cells ([.int .u8 3] : List Value).toArray 5)) = V7 from hV7V] at BN
      rw [hV7V] at XN
      replace Br := hidden (Br.out.ext XN)
      replace hRo := hidden (Rd.ext hRo.out XN)
      replace hE := hidden (hE.out.trans XN)
      have Bd := hidden BN
      clear BN
      clear XN
      replace hV7V := hidden hV7V
      go_upto_region 8 with fail
      rw [hV7V.out]
      clear hV7V hd
      obtain ⟨f, hf⟩ : ∃ p, V7.heap.size = p := ⟨_, rfl⟩
      have XN := (Ext.refl V7).alloc (.cells #[.int .u8 2, .int .u8 3] 5)
      have BN := blk_at1 V7 [.int .u8 2, .int .u8 3] 5 f hf
      obtain ⟨V8, hV8V⟩ : ∃ V, V7.alloc (.cells #[.int .u8 2, .int .u8 3] 5) = V := ⟨_, rfl⟩
      rw [show (V7.alloc (.cells ([.int .u8 2, .int .u8 3] : List Value).toArray 5)) = V8 from hV8V] at BN
      rw [hV8V] at XN
      replace Br := hidden (Br.out.ext XN)
      replace Bd := hidden (Bd.out.ext XN)
      replace hRo := hidden (Rd.ext hRo.out XN)
      replace hE := hidden (hE.out.trans XN)
      have Bf := hidden BN
      clear BN
      clear XN
      replace hV8V := hidden hV8V
      go_upto_region 12 with fail
      rw [hV8V.out]
      clear hV8V hf
      have cr0 := Br.out.cell 0 _ rfl
      have cr1 := Br.out.cell 1 _ rfl
      have cr2 := Br.out.cell 2 _ rfl
      have cr3 := Br.out.cell 3 _ rfl
      have heq := eq8_any (.slice ao 2 co) (.slice (some ⟨f, 0, none⟩) 2 2) [2, 3] [2, 3] V8 hRo.out (rd_blkY Bf.out rfl (by decide))
      simp only [decide_true] at heq
      replace heq := hidden heq
      go_wp2_with fail
      refine (heq.out).mono ?_
      rintro x w9 ⟨rfl, hX⟩
      clear cr0 cr1 cr2 cr3
      replace Br := hidden (Br.out.ext hX)
      replace Bd := hidden (Bd.out.ext hX)
      replace Bf := hidden (Bf.out.ext hX)
      replace hRo := hidden (Rd.ext hRo.out hX)
      replace hE := hidden (hE.out.trans hX)
      clear hX heq
      have cr0 := Br.out.cell 0 _ rfl
      have cr1 := Br.out.cell 1 _ rfl
      have cr2 := Br.out.cell 2 _ rfl
      have cr3 := Br.out.cell 3 _ rfl
      go_wp2_with fail
      refine (haw.out _).mono ?_
      rintro x wz ⟨rfl, hX⟩
      go_wp2_with fail
      go_ret
      exact ⟨rfl, hE.out.trans hX⟩
end Go.Proofs.YtgjjklajipekdaaGreat
