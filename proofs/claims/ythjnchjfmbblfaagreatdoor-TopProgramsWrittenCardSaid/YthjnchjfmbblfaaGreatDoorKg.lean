/- Decode of package instruction: the walk. -/
import Derived.Test.YthjnchjfmbblfaaGreatDoorJq
import Derived.Test.YthjnchjfmbblfaaGreatDoorMz
import Derived.Test.YthjnchjfmbblfaaGreatDoorJc
import Derived.Outline
import Derived.Test.YthjnchjfmbblfaaGreatDoorKb
namespace Go.Proofs.YthjnchjfmbblfaaGreatDoor
open Go.RowKit
set_option linter.unusedVariables false
attribute [local go_sem ↓] Go.wp_at_zero Go.wp_at_succ

set_option maxHeartbeats 4000000 in
set_option maxRecDepth 100000 in
theorem idecode_any (v : Value) (S : List Int) (hb : Bytes S) (hS : S.length ≤ 900000) (w : World) (hR : Rd8 w v S) :
    Calls Tryz.prog 10 #[v] w (DecPost w (decF S)) := by
  obtain ⟨a, cap, rfl, a1, a2, a3⟩ := Rd.shape hR
  obtain ⟨n0, hn0⟩ : ∃ n, S.length = n := ⟨_, rfl⟩
  obtain ⟨iA, hiA, hzA0, hzA1, hzA2⟩ := info_parts arrInfo
  obtain ⟨iC, hiC, hzC0, hzC1, hzC2⟩ := info_parts insInfo
  have hnumc := rnum_any
  have hopc := rop_any
  have hkn := known_any
  have hform := iform_any
  have hfail := rfail_any
  replace hnumc := hidden hnumc
  replace hopc := hidden hopc
  replace hkn := hidden hkn
  replace hform := hidden hform
  replace hfail := hidden hfail
  have BR : Blk (((w.alloc (.cells #[.slice none 0 0, .int .i64 0, .slice none 0 0] 25)).alloc (.cells #[.slice a S.length cap, .int .i64 0] 67)).alloc (.cells #[.slice none 0 0, .int .i64 0, .slice none 0 0] 25)) w.heap.size 25 [.slice none 0 0, .int .i64 0, .slice none 0 0] := ((Blk.new w [.slice none 0 0, .int .i64 0, .slice none 0 0] _).alloc _).alloc _
  have BQ : Blk (((w.alloc (.cells #[.slice none 0 0, .int .i64 0, .slice none 0 0] 25)).alloc (.cells #[.slice a S.length cap, .int .i64 0] 67)).alloc (.cells #[.slice none 0 0, .int .i64 0, .slice none 0 0] 25)) (w.heap.size + 1) 67 [.slice a S.length cap, .int .i64 0] := by
    have := Blk.new (w.alloc (.cells #[.slice none 0 0, .int .i64 0, .slice none 0 0] 25)) [.slice a S.length cap, .int .i64 0] 67
    rw [World.size_alloc] at this
    exact this.alloc _
  have BP : Blk (((w.alloc (.cells #[.slice none 0 0, .int .i64 0, .slice none 0 0] 25)).alloc (.cells #[.slice a S.length cap, .int .i64 0] 67)).alloc (.cells #[.slice none 0 0, .int .i64 0, .slice none 0 0] 25)) (w.heap.size + 1 + 1) 25 [.slice none 0 0, .int .i64 0, .slice none 0 0] := by
    have := Blk.new ((w.alloc (.cells #[.slice none 0 0, .int .i64 0, .slice none 0 0] 25)).alloc (.cells #[.slice a S.length cap, .int .i64 0] 67)) [.slice none 0 0, .int .i64 0, .slice none 0 0] 25
    rw [World.size_alloc, World.size_alloc] at this
    exact this
  have QR : Rdr (((w.alloc (.cells #[.slice none 0 0, .int .i64 0, .slice none 0 0] 25)).alloc (.cells #[.slice a S.length cap, .int .i64 0] 67)).alloc (.cells #[.slice none 0 0, .int .i64 0, .slice none 0 0] 25)) (w.heap.size + 1) (.slice a S.length cap) S 0 := ⟨BQ, Rd.alloc (Rd.alloc (Rd.alloc hR _) _) _⟩
  have X0 : Ext w (((w.alloc (.cells #[.slice none 0 0, .int .i64 0, .slice none 0 0] 25)).alloc (.cells #[.slice a S.length cap, .int .i64 0] 67)).alloc (.cells #[.slice none 0 0, .int .i64 0, .slice none 0 0] 25)) := (((Ext.refl w).alloc _).alloc _).alloc _
  have b1 := numF_bd 8 6 (by omega) S hb 0
  have u1 := numF_sub 8 6 S 0
  obtain ⟨N1, hN1⟩ : ∃ N, numF 8 6 S 0 = N := ⟨_, rfl⟩
  rw [hN1] at b1 u1
  replace hN1 := hidden hN1
  have hav : ∀ g, w.heap.size ≤ g → Av (.slice a S.length cap) S g := fun g hg => av_new hR hg
  rw [hn0] at BR BQ BP QR X0 hav ⊢
  replace hn0 := hidden hn0
  replace hb := hidden hb
  replace hav := hidden hav
  clear hR BQ a1 a2 a3
  go_enter Tryz.func10, Tryz.ntmps10
  go_wp2_with fail
  (with_reducible refine (hnumc.out _ _ S 0 8 6 hb.out hS _ QR).mono ?_)
  rw [hN1.out]
  rintro e w1 ⟨rfl, hp1⟩
  have st0 : St w (((w.alloc (.cells #[.slice none 0 0, .int .i64 0, .slice none 0 0] 25)).alloc (.cells #[.slice a n0 cap, .int .i64 0] 67)).alloc (.cells #[.slice none 0 0, .int .i64 0, .slice none 0 0] 25)) (.slice a n0 cap) (.slice none 0 0) (.slice none 0 0) S 0 [] 0 [] :=
    ⟨QR, hav.out _ (by omega), hav.out _ (by omega), (fun g hg => by simp [Value.ownBlock] at hg), (fun g hg => by simp [Value.ownBlock] at hg), BP, World.ownsRow_nil _ _ _ _, World.ownsRow_nil _ _ _ _, BR, X0⟩
  obtain ⟨v1, st1, -, -⟩ := st0.num hp1
  obtain ⟨x1, S1, e1⟩ := N1
  simp only at b1 u1 st1
  obtain ⟨c1, rfl⟩ := Int.eq_ofNat_of_zero_le b1.1
  have hb1 : Hid (Bytes S1) := u1.bytes hb.out
  have hl1 : S1.length ≤ 900000 := Nat.le_trans u1.len hS
  obtain ⟨b10, b11⟩ := b1
  clear st0 BR BP QR X0 b10 hp1
  replace st1 := hidden st1
  replace u1 := hidden u1
  go_wp2_with fail
  go_loopw [16] (fun i wr => ∃ (k : Nat) (v vA : Value), k ≤ c1 ∧ i = .int .i64 (k : Int) ∧ Hid (St w wr v vA (.slice none 0 0) (arrIt S1 e1 k).2.1 (arrIt S1 e1 k).2.2 (arrIt S1 e1 k).1 0 [])) (fun i _ => c1 - (intOf i).toNat)
  case atStart => exact ⟨0, v1, _, by omega, rfl, st1⟩
  case round =>
    clear st1
    obtain ⟨k, v, vA, hk, rfl, st⟩ := hrel
    have usk := arrIt_sub S1 e1 k
    have hlk := arrIt_len S1 e1 k
    have hok := arrIt_ok S1 hb1.out e1 k
    obtain ⟨T, hT⟩ : ∃ T, arrIt S1 e1 k = T := ⟨_, rfl⟩
    rw [hT] at usk hlk st hok
    have hTk := hidden hT
    obtain ⟨Ak, Sk, ek⟩ := T
    simp only at usk hlk st hok
    have hbk : Hid (Bytes Sk) := usk.bytes hb1.out
    have hslk : Sk.length ≤ 900000 := Nat.le_trans usk.len hl1
    replace usk := hidden usk
    replace hok := hidden hok
    have hal : Ak.length ≤ k := by omega
    replace hlk := hidden hlk
    clear hT
    by_cases hlt : k < c1
    · have b2 := numF_bd 9007199254740991 2 (by omega) Sk hbk.out ek
      obtain ⟨N, hN⟩ : ∃ N, numF 9007199254740991 2 Sk ek = N := ⟨_, rfl⟩
      have hnext : Hid (arrIt S1 e1 (k + 1) = (Ak ++ [(N.1 % 2 == 1, N.1 / 2)], N.2)) := by
        show arrIt S1 e1 (k + 1) = _
        unfold arrIt
        rw [hTk.out]
        simp only
        rw [hN]
      rw [hN] at b2
      replace hN := hidden hN
      obtain ⟨y, S3, e3⟩ := N
      simp only at b2 hnext
      obtain ⟨y0, y1⟩ := b2
      go_wp2_with fail
      (with_reducible refine (hnumc.out _ _ Sk ek 9007199254740991 2 hbk.out hslk _ st.out.rdr).mono ?_)
      rw [hN.out]
      rintro e w2 ⟨rfl, hp2⟩
      obtain ⟨v2, st2, -, -⟩ := st.out.num hp2
      clear st hp2
      obtain ⟨aA, cA1, rfl, q1, q2, q3⟩ := own_shape st2.oA
      have z0 := st2.p.cell 0 _ rfl
      have hs2 := st2.p.lt
      replace st2 := hidden st2
      go_wp2_with (at_builtin; refine wpList_append_own_at _ rfl _ _ 22 rfl (w.heap.size + 1 + 1 + 1) 63 iA (.agg #[.bool false, .int .i64 0]) 2 16 Tryz.underlying22 hiA hzA0 hzA1 hzA2 rfl (by decide) (.slice aA Ak.length cA1) Ak.length (Ak.flatMap cA) rfl (World.ownsRow.alloc st2.out.oA _) ⟨w2.heap.size, 0, none⟩ 1 1 [.bool (y % 2 == 1), .int .i64 (y / 2)] rfl rfl (World.news_of_block (cs := #[.bool (y % 2 == 1), .int .i64 (y / 2)]) (t := 63) (fr := (0, 0)) (heap_alloc_new w2 _)) (by simp [Value.oneCell']) (by unfold maxLen; omega) (by omega) (by simp; omega) ?_; intro v3 w3 hown3 hgrow3 _ hb3; obtain ⟨a33, c33, rfl, -, -, -⟩ := own_shape hown3; have hg3 := st2.out.grownA hown3 hgrow3 hb3 (y % 2 == 1, y / 2) rfl rfl; have h30 := hg3.1.cell 0 _ rfl; have f30 := hg3.1.frozen 0)
      go_roundw
      case rel => exact ⟨k + 1, v2, _, by omega, by go_num, by show St _ _ _ _ _ _ _ _ _ _; rw [hnext.out]; exact hg3.2⟩
      case measure => simp [intOf]; omega
    · obtain rfl : k = c1 := by omega
      have b3 := numF_bd 9007199254740991 2 (by omega) Sk hbk.out ek
      have u3 := numF_sub 9007199254740991 2 Sk ek
      obtain ⟨N3, hN3⟩ : ∃ N, numF 9007199254740991 2 Sk ek = N := ⟨_, rfl⟩
      rw [hN3] at b3 u3
      replace hN3 := hidden hN3
      obtain ⟨L, S3, e3⟩ := N3
      simp only at b3 u3
      obtain ⟨L0, L1⟩ := b3
      have hb3 : Hid (Bytes S3) := u3.bytes hbk.out
      have hl3 : S3.length ≤ 900000 := Nat.le_trans u3.len hslk
      replace u3 := hidden u3
      have b4 := numF_bd 1024 6 (by omega) S3 hb3.out e3
      have u4 := numF_sub 1024 6 S3 e3
      obtain ⟨N4, hN4⟩ : ∃ N, numF 1024 6 S3 e3 = N := ⟨_, rfl⟩
      rw [hN4] at b4 u4
      replace hN4 := hidden hN4
      obtain ⟨c2', S4, e4⟩ := N4
      simp only at b4 u4
      obtain ⟨b40, b41⟩ := b4
      obtain ⟨c2, rfl⟩ := Int.eq_ofNat_of_zero_le b40
      have hb4 : Hid (Bytes S4) := u4.bytes hb3.out
      have hl4 : S4.length ≤ 900000 := Nat.le_trans u4.len hl3
      replace u4 := hidden u4
      clear b40
      go_wp2_with fail
      (with_reducible refine (hnumc.out _ _ Sk ek 9007199254740991 2 hbk.out hslk _ st.out.rdr).mono ?_)
      rw [hN3.out]
      rintro e w2 ⟨rfl, hp2⟩
      obtain ⟨v2, st2, -, -⟩ := st.out.num hp2
      clear st hp2
      have z1 := st2.p.cell 1 _ rfl
      have f1 := st2.p.frozen 1
      have st3 := st2.setL L
      replace st2 := hidden st2
      replace st3 := hidden st3
      go_wp2_with fail
      (with_reducible refine (hnumc.out _ _ S3 e3 1024 6 hb3.out hl3 _ st3.out.rdr).mono ?_)
      rw [hN4.out]
      rintro e w4 ⟨rfl, hp4⟩
      obtain ⟨v4, st4, -, -⟩ := st3.out.num hp4
      clear st2 st3 hp4 z1 f1
      replace st4 := hidden st4
      go_wp2_with fail
      go_loopw [37] (fun i wr => ∃ (j : Nat) (v vC : Value), j ≤ c2 ∧ i = .int .i64 (j : Int) ∧ Hid (St w wr v vA vC (codIt S4 e4 j).2.1 (codIt S4 e4 j).2.2 Ak L (codIt S4 e4 j).1)) (fun i _ => c2 - (intOf i).toNat)
      case atStart => exact ⟨0, v4, _, by omega, rfl, st4⟩
      case round =>
        clear st4
        obtain ⟨j, v5, vC, hj, rfl, st⟩ := hrel
        have usj := codIt_sub S4 e4 j
        have hlj := codIt_len S4 e4 j
        have hokC := codIt_ok S4 hb4.out e4 j
        obtain ⟨T, hT⟩ : ∃ T, codIt S4 e4 j = T := ⟨_, rfl⟩
        rw [hT] at usj hlj st hokC
        have hTj := hidden hT
        obtain ⟨Cj, Sj, ej⟩ := T
        simp only at usj hlj st hokC
        have hbj : Hid (Bytes Sj) := usj.bytes hb4.out
        have hslj : Sj.length ≤ 900000 := Nat.le_trans usj.len hl4
        replace usj := hidden usj
        replace hokC := hidden hokC
        have hcl : Cj.length ≤ j := by omega
        replace hlj := hidden hlj
        clear hT
        by_cases hlt2 : j < c2
        · have b6 := opF_bd Sj hbj.out ej
          have u6 := opF_sub Sj ej
          obtain ⟨O, hO⟩ : ∃ N, opF Sj ej = N := ⟨_, rfl⟩
          rw [hO] at b6 u6
          have hO' := hidden hO
          obtain ⟨op, S6, e6⟩ := O
          simp only at b6 u6
          obtain ⟨op0, op1⟩ := b6
          have hb6 : Hid (Bytes S6) := u6.bytes hbj.out
          have hl6 : S6.length ≤ 900000 := Nat.le_trans u6.len hslj
          replace u6 := hidden u6
          have b7 := argF_bd op S6 hb6.out e6
          obtain ⟨N, hN⟩ : ∃ N, argF op S6 e6 = N := ⟨_, rfl⟩
          have hnext : Hid (codIt S4 e4 (j + 1) = (Cj ++ [(op, N.1)], N.2)) := by
            show codIt S4 e4 (j + 1) = _
            unfold codIt
            rw [hTj.out]
            simp only
            rw [hO]
            simp only
            rw [hN]
          rw [hN] at b7
          have hN' := hidden hN
          obtain ⟨arg, S7, e7⟩ := N
          simp only at b7 hnext
          obtain ⟨g0, g1⟩ := b7
          obtain ⟨TT, hTT⟩ : ∃ T, opAt op = T := ⟨_, rfl⟩
          obtain ⟨ok, hio⟩ : ∃ b, isOp op = b := ⟨_, rfl⟩
          have hk2 := hkn.out op
          have hokk := arg_isOp op
          have hargN : argF op S6 e6 = if TT.2.2.2.2 then numF 4294967295 2 S6 e6 else (0, S6, e6) := by unfold argF; rw [hTT]
          rw [hN] at hargN
          simp only [hTT, hio] at hk2 hokk
          obtain ⟨t0, t1, t2, t3, t4⟩ := TT
          simp only at hk2 hokk hargN
          replace hk2 := hidden hk2
          replace hio := hidden hio
          replace hTT := hidden hTT
          clear hO hN
          go_wp2_with fail
          (with_reducible refine (hopc.out _ _ Sj ej hbj.out _ st.out.rdr).mono ?_)
          rw [hO'.out]
          rintro e w6 ⟨rfl, hp6⟩
          obtain ⟨v6, st6, -, -⟩ := st.out.num hp6
          clear st hp6
          have st7 := st6.more ((Ext.refl w6).alloc (.cells #[.int .i64 op, .int .u32 0] 56))
          have B7 := Blk.new w6 [.int .i64 op, .int .u32 0] 56
          have hs6 := st6.p.lt
          have hne6 : Hid (∀ x, x < w6.heap.size → x ≠ w6.heap.size) := fun x hx => by omega
          replace st7 := hidden st7
          replace st6 := hidden st6
          go_wp2_with fail
          refine (hk2.out _).mono ?_
          rintro e w8 ⟨rfl, g8⟩
          have st9 := (st7.out.more g8).more ((Ext.refl w8).alloc (.cells #[.string t0, .string t1, .string t2, .int .u64 t3, .bool t4] 72))
          have B9 := (B7.ext g8).alloc (.cells #[.string t0, .string t1, .string t2, .int .u64 t3, .bool t4] 72)
          have hs8 := g8.size
          simp only [World.size_alloc] at hs8
          clear st7 B7
          cases t4 with
          | false =>
            simp only [Bool.false_eq_true, if_false, Prod.mk.injEq] at hargN
            obtain ⟨rfl, rfl, rfl⟩ := hargN
            obtain ⟨aC, cC1, rfl, q1, q2, q3⟩ := own_shape st9.oC
            have z2 := st9.p.cell 2 _ rfl
            have y0 := B9.cell 0 _ rfl
            have y1 := B9.cell 1 _ rfl
            have hnew : Hid (((w8.alloc (.cells #[.string t0, .string t1, .string t2, .int .u64 t3, .bool false] 72)).alloc (.cells #[.int .i64 op, .int .u32 0] 56)).heap[w8.heap.size + 1]? = some (.cells #[.int .i64 op, .int .u32 0] 56 (0, 0))) := by
              have := heap_alloc_new (w8.alloc (.cells #[.string t0, .string t1, .string t2, .int .u64 t3, .bool false] 72)) (.cells #[.int .i64 op, .int .u32 0] 56)
              rw [World.size_alloc] at this
              exact this
            replace st9 := hidden st9
            cases ok
            all_goals
              go_wp2_with (at_builtin; refine wpList_append_own_at _ rfl _ _ 23 rfl (w.heap.size + 1 + 1 + 1) 56 iC (.agg #[.int .i64 0, .int .u32 0]) 2 16 Tryz.underlying23 hiC hzC0 hzC1 hzC2 rfl (by decide) (.slice aC Cj.length cC1) Cj.length (Cj.flatMap cI) rfl (World.ownsRow.alloc (st9).out.oC _) ⟨w8.heap.size + 1, 0, none⟩ 1 1 [.int .i64 op, .int .u32 0] rfl rfl (World.news_of_block (cs := #[.int .i64 op, .int .u32 0]) (t := 56) (fr := (0, 0)) hnew.out) (by simp [Value.oneCell']) (by unfold maxLen; omega) (by omega) (by simp; omega) ?_; intro v3 w3 hown3 hgrow3 _ hb3; obtain ⟨a33, c33, rfl, -, -, -⟩ := own_shape hown3; have hg3 := (st9).out.grownC hown3 hgrow3 hb3 (op, 0) rfl rfl; have h30 := hg3.1.cell 2 _ rfl; have f30 := hg3.1.frozen 2)
              go_roundw
              case rel => exact ⟨j + 1, _, _, by omega, by go_num, by show St _ _ _ _ _ _ _ _ _ _; rw [hnext.out]; exact hg3.2⟩
              case measure => simp [intOf]; omega
          | true =>
            obtain rfl := hokk rfl
            simp only [if_true] at hargN
            have hargN := hidden hargN
            have q10 := st9.p.lt
            replace st9 := hidden st9
            go_wp2_with fail
            (with_reducible refine (hnumc.out _ _ S6 e6 4294967295 2 hb6.out hl6 _ st9.out.rdr).mono ?_)
            rw [← hargN.out]
            rintro e w10 ⟨rfl, hp10⟩
            have hav6 : Av v6 S6 w6.heap.size := av_new st6.out.rdr.rd (Nat.le_refl _)
            have hwA : ∀ v'' n'' cs'' (T'' : TypeId), w6.ownsRow (w.heap.size + 1 + 1 + 1) T'' 2 v'' n'' cs'' → v''.ownBlock ≠ some w6.heap.size := fun v'' n'' cs'' T'' h hv => by have := (own_lt h hv).2; omega
            obtain ⟨v10, st10, C10, A10⟩ := st9.out.num hp10
            have B10 := B9.chg C10 (by simp; omega)
            have F10 := A10 w6.heap.size (by simp; omega) hav6
            have y1 := B10.cell 1 _ rfl
            have f1 := B10.frozen 1
            have hC11 := (Chg.refl [w6.heap.size] w10).setCell (p := ⟨w6.heap.size, 1, none⟩) (Or.inl (by simp)) (.int .u32 arg)
            have st11 := st10.chg hC11 (by
              intro x hx
              simp only [List.mem_singleton] at hx
              subst hx
              exact ⟨by omega, hwA _ _ _ _ st6.out.oA, hwA _ _ _ _ st6.out.oC, F10⟩)
            have B11 := B10.set 1 (.int .u32 arg)
            obtain ⟨aC, cC1, rfl, q1, q2, q3⟩ := own_shape st11.oC
            have z2 := st11.p.cell 2 _ rfl
            have x0 := B11.cell 0 _ rfl
            have x1 := B11.cell 1 _ rfl
            have hs11 := st11.p.lt
            have hnew : Hid (((w10.setCell ⟨w6.heap.size, 1, none⟩ (.int .u32 arg)).alloc (.cells #[.int .i64 op, .int .u32 arg] 56)).heap[w10.heap.size]? = some (.cells #[.int .i64 op, .int .u32 arg] 56 (0, 0))) := by
              have := heap_alloc_new (w10.setCell ⟨w6.heap.size, 1, none⟩ (.int .u32 arg)) (.cells #[.int .i64 op, .int .u32 arg] 56)
              have e : (w10.setCell ⟨w6.heap.size, 1, none⟩ (.int .u32 arg)).heap.size = w10.heap.size := by simp [World.setCell]
              rw [e] at this
              exact this
            have e11 : (w10.setCell ⟨w6.heap.size, 1, none⟩ (.int .u32 arg)).heap.size = w10.heap.size := by simp [World.setCell]
            rw [e11] at hs11
            replace e11 := hidden e11
            replace st11 := hidden st11
            clear st10 B10 F10 A10 C10 B9 hav6 hC11 hwA hp10 st9 st6
            go_wp2_with (at_builtin; refine wpList_append_own_at _ rfl _ _ 23 rfl (w.heap.size + 1 + 1 + 1) 56 iC (.agg #[.int .i64 0, .int .u32 0]) 2 16 Tryz.underlying23 hiC hzC0 hzC1 hzC2 rfl (by decide) (.slice aC Cj.length cC1) Cj.length (Cj.flatMap cI) rfl (World.ownsRow.alloc st11.out.oC _) ⟨w10.heap.size, 0, none⟩ 1 1 [.int .i64 op, .int .u32 arg] rfl rfl (World.news_of_block (cs := #[.int .i64 op, .int .u32 arg]) (t := 56) (fr := (0, 0)) hnew.out) (by simp [Value.oneCell']) (by unfold maxLen; omega) (by omega) (by simp; omega) ?_; intro v3 w3 hown3 hgrow3 _ hb3; obtain ⟨a33, c33, rfl, -, -, -⟩ := own_shape hown3; have hg3 := st11.out.grownC hown3 hgrow3 hb3 (op, arg) rfl rfl; have h30 := hg3.1.cell 2 _ rfl; have f30 := hg3.1.frozen 2)
            go_roundw
            case rel => exact ⟨j + 1, _, _, by omega, by go_num, by show St _ _ _ _ _ _ _ _ _ _; rw [hnext.out]; exact hg3.2⟩
            case measure => simp [intOf]; omega
        · obtain rfl : j = c2 := by omega
          obtain ⟨E, hEe⟩ : ∃ E, (if ej = 0 then formE Ak L Cj else ej) = E := ⟨_, rfl⟩
          have hG : Hid (decG S = ⟨E, Ak, L, Cj, Sj⟩) := by
            show decG S = _
            rw [← hEe]
            unfold decG
            simp only [hN1.out, hTk.out, hN3.out, hN4.out, hTj.out, Int.toNat_natCast]
          by_cases hej : ej = 0
          · subst hej
            rw [if_pos rfl] at hEe
            replace hEe := hidden hEe
            have z1 := st.out.rdr.blk.cell 1 _ rfl
            have p0 := st.out.p.cell 0 _ rfl
            have p1 := st.out.p.cell 1 _ rfl
            have p2 := st.out.p.cell 2 _ rfl
            have rA : Arr wr vA Ak := Rd.of_own st.out.oA
            have rC : Cod wr vC Cj := Rd.of_own st.out.oC
            have L2 : -9223372036854775808 ≤ L := by omega
            have L3 : L ≤ 9223372036854775807 := by omega
            go_wp2_with fail
            (with_reducible refine (hform.out _ _ Ak L Cj hok.out hokC.out L2 L3 _ rA rC).mono ?_)
            rw [hEe.out]
            rintro e w5 ⟨rfl, g5⟩
            have st5 := st.out.more g5
            clear z1 p0 p1 p2
            go_wp2_with fail
            (with_reducible refine (hfail.out _ _ _ 0 E _ st5.rdr).mono ?_)
            simp only [if_true]
            rintro e w6 ⟨rfl, hp6⟩
            obtain ⟨v6, st6, -, -⟩ := st5.num hp6
            clear st st5 hp6
            by_cases hE0 : E = 0
            · subst hE0
              have hD : Hid (decF S = ⟨0, Ak, L, Cj, Sj⟩) := by show _ = _; unfold decF; rw [hG.out]; exact if_neg (by simp)
              obtain ⟨i0, hi, hz0, hz1, hz2⟩ := info_parts u8info
              obtain ⟨av, cv, rfl, m1, m2, m3⟩ := Rd.shape st6.rdr.rd
              obtain ⟨aA, cA1, rfl, -, -, -⟩ := own_shape st6.oA
              obtain ⟨aC, cC1, rfl, -, -, -⟩ := own_shape st6.oC
              have hsl : Sj.length ≤ 900000 := hslj
              have st7 := st6.more ((Ext.refl w6).alloc (.cells #[] 5))
              have hs6 := st6.p.lt
              have O0 : ((w6.alloc (.cells #[] 5)).drew).ownsRow w6.heap.size 5 1 (.slice (some ⟨w6.heap.size, 0, none⟩) 0 0) 0 [] := own_zero w6 5 1
              have HR : Rd8 ((w6.alloc (.cells #[] 5)).drew) (.slice av Sj.length cv) Sj := (Rd.alloc st6.rdr.rd _).drew
              have z0 := st6.rdr.blk.cell 0 _ rfl
              have z3 := st6.rdr.blk.cell 1 _ rfl
              have z5 := st7.rdr.blk.cell 0 _ rfl
              have p0 := st6.p.cell 0 _ rfl
              have p1 := st6.p.cell 1 _ rfl
              have p2 := st6.p.cell 2 _ rfl
              have p3 := st7.p.cell 0 _ rfl
              have p4 := st7.p.cell 1 _ rfl
              have p5 := st7.p.cell 2 _ rfl
              have hne : ∀ x, x < w6.heap.size → (Value.slice (some ⟨w6.heap.size, 0, none⟩) 0 0).ownBlock ≠ some x := fun x hx e => by simp only [Value.ownBlock, Option.some.injEq] at e; omega
              have hnr : Hid ((Value.slice (some ⟨w6.heap.size, 0, none⟩) 0 0).ownBlock ≠ some w.heap.size) := hne _ (by omega)
              have hnq : Hid ((Value.slice (some ⟨w6.heap.size, 0, none⟩) 0 0).ownBlock ≠ some (w.heap.size + 1)) := hne _ (by omega)
              have hnp : Hid ((Value.slice (some ⟨w6.heap.size, 0, none⟩) 0 0).ownBlock ≠ some (w.heap.size + 1 + 1)) := hne _ (by omega)
              replace hne := hidden hne
              replace st6 := hidden st6
              replace st7 := hidden st7
              go_wp2_with fail
              rename_i KK hKK
              clear hiA hzA0 hzA1 hzA2 hiC hzC0 hzC1 hzC2 hnumc hopc hkn hform hfail hTk hN1 hN3 hN4 hTj hG hEe rA rC hok hokC hbj usj hlj hb hav hn0 hb1 u1 hbk usk hlk hb3 u3 hb4 u4 hne
              go_region_law (first | (refine step_append_rd (by rfl) _ _ 36 (by rfl) w6.heap.size 5 i0 (.int .u8 0) 1 1 Tryz.underlying36 hi hz0 hz1 hz2 rfl (by decide) (.slice (some ⟨w6.heap.size, 0, none⟩) 0 0) 0 [] (by rfl) O0 av Sj.length cv (bs Sj) (by rfl) HR (bs_one Sj) (by unfold maxLen; omega) (by omega) (by simp) ?_; intro v8 w8 hown8 hgrow8; rw [Nat.zero_add, List.nil_append] at hown8; obtain ⟨a8, k8, rfl, -, -, -⟩ := Rd.shape (Rd.of_own hown8); have P8 := (st7.out.p.drew).grown hgrow8 hnp.out; have R8 := (st7.out.r.drew).grown hgrow8 hnr.out; have Q8 := (st7.out.rdr.blk.drew).grown hgrow8 hnq.out; have b0 := P8.cell 0 _ rfl; have b1 := P8.cell 1 _ rfl; have b2 := P8.cell 2 _ rfl; have r0 := R8.cell 0 _ rfl; have r1 := R8.cell 1 _ rfl; have r2 := R8.cell 2 _ rfl; have y0 := R8.frozen 0; have y1 := R8.frozen 1; have y2 := R8.frozen 2; have c0 := Q8.cell 0 _ rfl))
              all_goals
                have R9 := ((R8.set 0 (.slice aA Ak.length cA1)).set 1 (.int .i64 L)).set 2 (.slice aC Cj.length cC1)
                have q7 := R9.cell 0 _ rfl
                have q8 := R9.cell 1 _ rfl
                have q9 := R9.cell 2 _ rfl
                have hC9 := (((Chg.refl [w.heap.size] w8).setCell (p := ⟨w.heap.size, 0, none⟩) (Or.inl (by simp)) (.slice aA Ak.length cA1)).setCell (p := ⟨w.heap.size, 1, none⟩) (Or.inl (by simp)) (.int .i64 L)).setCell (p := ⟨w.heap.size, 2, none⟩) (Or.inl (by simp)) (.slice aC Cj.length cC1)
                have hCg : Chg [w6.heap.size] ((w6.alloc (.cells #[] 5)).drew) w8 := (Chg.refl _ _).grown hgrow8 (fun k hk => Or.inl (by simp [Value.ownBlock] at hk; simp [hk]))
                have oA8 := own_chg (own_ext st7.out.oA (Ext.refl _).drew) hCg (fun x hx hv => by simp at hx; have := (own_lt st6.out.oA hv).2; omega)
                have oC8 := own_chg (own_ext st7.out.oC (Ext.refl _).drew) hCg (fun x hx hv => by simp at hx; have := (own_lt st6.out.oC hv).2; omega)
                have oA9 := own_chg oA8 hC9 (fun x hx hv => by simp at hx; have := (own_lt oA8 hv).1; omega)
                have oC9 := own_chg oC8 hC9 (fun x hx hv => by simp at hx; have := (own_lt oC8 hv).1; omega)
                have o89 := own_chg hown8 hC9 (fun x hx hv => by simp at hx; have := (own_lt hown8 hv).1; omega)
                have X9 := (((Chg.of_ext [] st7.out.ext.drew).trans hCg (fun x hx => Or.inr (by simp at hx; omega))).trans hC9 (fun x hx => Or.inr (by simp at hx; omega))).ext
                clear z0 z3 z5 p0 p1 p2 p3 p4 p5 b0 b1 b2 r0 r1 r2 y0 y1 y2 c0 hCg hC9 R8 R9 P8 Q8 oA8 oC8 hown8 hgrow8 O0 HR
                show KK _ _
                refine hKK _ _ ?_
                refine wp_ret ?_
                refine bodyPost_ret (v := .tuple #[.agg #[.slice aA Ak.length cA1, .int .i64 L, .slice aC Cj.length cC1], .slice a8 Sj.length k8, .int .i64 0]) (by simp [results, Tryz.results10, go_sem, q7, q8, q9]) rfl ?_
                show DecPost w (decF S) _ _
                rw [hD.out]
                exact ⟨_, _, _, rfl, own_mono oA9 (by omega), own_mono oC9 (by omega), own_mono o89 (by omega), X9⟩
            · have hE1 : (E != 0) = true := by simp [hE0]
              have z3 := st6.rdr.blk.cell 1 _ rfl
              have r0 := st6.r.cell 0 _ rfl
              have r1 := st6.r.cell 1 _ rfl
              have r2 := st6.r.cell 2 _ rfl
              have y0 := st6.r.frozen 0
              have y1 := st6.r.frozen 1
              have y2 := st6.r.frozen 2
              have hD : Hid (decF S = ⟨E, [], 0, [], []⟩) := by show _ = _; unfold decF; rw [hG.out]; exact if_pos hE0
              replace st6 := hidden st6
              go_wp2_with fail
              go_region
              all_goals
                have R4 := ((st6.out.r.set 0 (.slice none 0 0)).set 1 (.int .i64 0)).set 2 (.slice none 0 0)
                have q0 := R4.cell 0 _ rfl
                have q1 := R4.cell 1 _ rfl
                have q2 := R4.cell 2 _ rfl
                have X4 := (((Chg.of_ext [] st6.out.ext).setCell (p := ⟨w.heap.size, 0, none⟩) (Or.inr (Nat.le_refl _)) (.slice none 0 0)).setCell (p := ⟨w.heap.size, 1, none⟩) (Or.inr (Nat.le_refl _)) (.int .i64 0)).setCell (p := ⟨w.heap.size, 2, none⟩) (Or.inr (Nat.le_refl _)) (.slice none 0 0)
                clear r0 r1 r2 y0 y1 y2 z3
                go_wp2_with fail
                refine bodyPost_ret (v := .tuple #[.agg #[.slice none 0 0, .int .i64 0, .slice none 0 0], .slice none 0 0, .int .i64 E]) (by simp [results, Tryz.results10, go_sem, q0, q1, q2]) rfl ?_
                show DecPost w (decF S) _ _
                rw [hD.out]
                exact ⟨_, _, _, rfl, World.ownsRow_nil _ _ _ _, World.ownsRow_nil _ _ _ _, World.ownsRow_nil _ _ _ _, X4.ext.drew⟩
          · rw [if_neg hej] at hEe
            subst hEe
            have st6 := st.out
            have hE0 := hej
            have hE1 : (ej != 0) = true := by simp [hej]
            have hE2 : (ej == 0) = false := by simp [hej]
            clear st
            have z3 := st6.rdr.blk.cell 1 _ rfl
            have r0 := st6.r.cell 0 _ rfl
            have r1 := st6.r.cell 1 _ rfl
            have r2 := st6.r.cell 2 _ rfl
            have y0 := st6.r.frozen 0
            have y1 := st6.r.frozen 1
            have y2 := st6.r.frozen 2
            have hD : Hid (decF S = ⟨ej, [], 0, [], []⟩) := by show _ = _; unfold decF; rw [hG.out]; exact if_pos hE0
            replace st6 := hidden st6
            go_wp2_with fail
            go_region
            all_goals
              have R4 := ((st6.out.r.set 0 (.slice none 0 0)).set 1 (.int .i64 0)).set 2 (.slice none 0 0)
              have q0 := R4.cell 0 _ rfl
              have q1 := R4.cell 1 _ rfl
              have q2 := R4.cell 2 _ rfl
              have X4 := (((Chg.of_ext [] st6.out.ext).setCell (p := ⟨w.heap.size, 0, none⟩) (Or.inr (Nat.le_refl _)) (.slice none 0 0)).setCell (p := ⟨w.heap.size, 1, none⟩) (Or.inr (Nat.le_refl _)) (.int .i64 0)).setCell (p := ⟨w.heap.size, 2, none⟩) (Or.inr (Nat.le_refl _)) (.slice none 0 0)
              clear r0 r1 r2 y0 y1 y2 z3
              go_wp2_with fail
              refine bodyPost_ret (v := .tuple #[.agg #[.slice none 0 0, .int .i64 0, .slice none 0 0], .slice none 0 0, .int .i64 ej]) (by simp [results, Tryz.results10, go_sem, q0, q1, q2]) rfl ?_
              show DecPost w (decF S) _ _
              rw [hD.out]
              exact ⟨_, _, _, rfl, World.ownsRow_nil _ _ _ _, World.ownsRow_nil _ _ _ _, World.ownsRow_nil _ _ _ _, X4.ext.drew⟩
end Go.Proofs.YthjnchjfmbblfaaGreatDoor

/- The reference of layer 15: HasArg, Form. -/
namespace Go.Proofs.YthjnchjfmbblfaaGreatDoor
open Go.RowKit
set_option linter.unusedVariables false
attribute [local go_sem ↓] Go.wp_at_zero Go.wp_at_succ

theorem hasarg_tab : (List.range 36).all (fun k => (opAt (k : Int)).2.2.2.2 == decide (k ≤ 4 ∨ k = 35)) = true := by decide +kernel
theorem hasarg_eq (op : Int) : (opAt op).2.2.2.2 = decide ((0 ≤ op ∧ op ≤ 4) ∨ op = 35) := by
  by_cases h : 0 ≤ op ∧ op < 36
  · obtain ⟨n, rfl⟩ := Int.eq_ofNat_of_zero_le h.1
    have := List.all_eq_true.1 hasarg_tab n (by simp; omega)
    simp only [beq_iff_eq] at this
    rw [this, decide_eq_decide]
    omega
  · unfold opAt
    rw [if_neg h]
    symm
    exact decide_eq_false (by omega)
def sumA : List (Bool × Int) → Int
  | [] => 0
  | a :: r => a.2 + sumA r
theorem sumA_snoc (l : List (Bool × Int)) (x : Bool × Int) : sumA (l ++ [x]) = sumA l + x.2 := by
  induction l with
  | nil => simp [sumA]
  | cons a l ih => show a.2 + sumA (l ++ [x]) = a.2 + sumA l + x.2; rw [ih]; omega
theorem sumA_nn (l : List (Bool × Int)) (h : ∀ x ∈ l, 1 ≤ x.2) : 0 ≤ sumA l := by
  induction l with
  | nil => exact Int.le_refl _
  | cons a l ih =>
    have := h a (by simp)
    have := ih (fun x hx => h x (by simp [hx]))
    show 0 ≤ a.2 + sumA l
    omega
theorem arrs_bad : ∀ (l : List (Bool × Int)) (left : Int), left ≤ 65536 → ∀ x ∈ l, (x.2 < 1 ∨ 65536 < x.2) → arrs left l = 2
  | [], _, _, x, hx, _ => by cases hx
  | a :: r, left, hl, x, hx, hb => by
    by_cases hc : a.2 < 1 ∨ left < a.2
    · exact if_pos hc
    · rw [show arrs left (a :: r) = arrs (left - a.2) r from if_neg hc]
      rcases List.mem_cons.1 hx with rfl | hx
      · omega
      · exact arrs_bad r (left - a.2) (by omega) x hx hb
theorem arrs_sum : ∀ (l : List (Bool × Int)) (left : Int), 0 ≤ left → (∀ x ∈ l, 1 ≤ x.2) → arrs left l = if sumA l ≤ left then 0 else 2
  | [], left, h0, _ => (if_pos h0).symm
  | a :: r, left, h0, h => by
    have h1 := h a (by simp)
    have hr : ∀ x ∈ r, 1 ≤ x.2 := fun x hx => h x (by simp [hx])
    have h2 := sumA_nn r hr
    by_cases hc : a.2 < 1 ∨ left < a.2
    · rw [show arrs left (a :: r) = 2 from if_pos hc]
      exact (if_neg (by show ¬ a.2 + sumA r ≤ left; omega)).symm
    · rw [show arrs left (a :: r) = arrs (left - a.2) r from if_neg hc, arrs_sum r (left - a.2) (by omega) hr]
      show _ = if a.2 + sumA r ≤ left then _ else _
      by_cases h3 : sumA r ≤ left - a.2
      · rw [if_pos h3, if_pos (by omega)]
      · rw [if_neg h3, if_neg (by omega)]

end Go.Proofs.YthjnchjfmbblfaaGreatDoor

/- The reference of layer 15: arrays, code. -/
namespace Go.Proofs.YthjnchjfmbblfaaGreatDoor
open Go.RowKit
set_option linter.unusedVariables false
attribute [local go_sem ↓] Go.wp_at_zero Go.wp_at_succ

/-- What the reference reads: the error, the arrays, the rest. -/
def arrR : Nat → List Int → Int × List (Bool × Int) × List Int
  | 0, S => (0, [], S)
  | k + 1, S =>
    if (arrR k S).1 ≠ 0 then arrR k S else
    if (wrd (arrR k S).2.2).1 ≠ 0 then ((wrd (arrR k S).2.2).1, [], []) else (0, (arrR k S).2.1 ++ [((wrd (arrR k S).2.2).2.1 % 2 == 1, (wrd (arrR k S).2.2).2.1 / 2)], (wrd (arrR k S).2.2).2.2)
def arraysR (S : List Int) : Int × List (Bool × Int) × List Int :=
  if (wrd S).1 ≠ 0 then ((wrd S).1, [], []) else if 8 < (wrd S).2.1 then (6, [], []) else arrR (wrd S).2.1.toNat (wrd S).2.2
theorem arrR_stuck (k : Nat) (S : List Int) (h : (arrR k S).1 ≠ 0) : ∀ j, k ≤ j → arrR j S = arrR k S := by
  intro j
  induction j with
  | zero => intro hj; have h0 : k = 0 := (by omega); rw [h0]
  | succ j ih =>
    intro hj
    by_cases he : k = j + 1
    · rw [he]
    · have := ih (by omega)
      show (if (arrR j S).1 ≠ 0 then arrR j S else _) = _
      rw [this, if_pos h]
theorem arrR_len (k : Nat) (S : List Int) : (arrR k S).1 = 0 → (arrR k S).2.1.length = k := by
  induction k with
  | zero => intro _; rfl
  | succ k ih =>
    intro h
    unfold arrR at h ⊢
    by_cases h1 : (arrR k S).1 ≠ 0
    · rw [if_pos h1] at h; exact absurd h h1
    · rw [if_neg h1] at h ⊢
      by_cases h2 : (wrd (arrR k S).2.2).1 ≠ 0
      · rw [if_pos h2] at h; exact absurd h h2
      · rw [if_neg h2]
        simp only [List.length_append, List.length_singleton]
        rw [ih (Decidable.not_not.1 h1)]
theorem arrR_sub (k : Nat) (S : List Int) : Sub S (arrR k S).2.2 := by
  induction k with
  | zero => exact Sub.refl S
  | succ k ih =>
    unfold arrR
    split
    · exact ih
    · split
      · exact ⟨S.length, by simp⟩
      · exact ih.trans (wrd_sub _)
theorem arrR_err (k : Nat) (S : List Int) (h : (arrR k S).1 ≠ 0) : (arrR k S).2 = ([], []) := by
  induction k with
  | zero => exact absurd rfl h
  | succ k ih =>
    unfold arrR at h ⊢
    by_cases h1 : (arrR k S).1 ≠ 0
    · rw [if_pos h1]; exact ih h1
    · rw [if_neg h1] at h ⊢
      by_cases h2 : (wrd (arrR k S).2.2).1 ≠ 0
      · rw [if_pos h2]
      · rw [if_neg h2] at h; exact absurd rfl h
def ArrPost (w : World) (r : Int × List (Bool × Int) × List Int) (x : Ending) (w' : World) : Prop :=
  ∃ vA v, x = .returned (.tuple #[vA, v, .int .i64 r.1]) ∧ w'.ownsRow w.heap.size 63 2 vA r.2.1.length (r.2.1.flatMap cA) ∧ Rd8 w' v r.2.2 ∧ Ext w w'
theorem arrInfo2 : (Tryz.prog.info? 63).map (fun i => (i.zero, i.size, i.bytes)) = some (some (.agg #[.bool false, .int .i64 0]), 2, 16) := by kernel_rfl
theorem insInfo2 : (Tryz.prog.info? 56).map (fun i => (i.zero, i.size, i.bytes)) = some (some (.agg #[.int .i64 0, .int .u32 0]), 2, 16) := by kernel_rfl

end Go.Proofs.YthjnchjfmbblfaaGreatDoor

/- The reference of layer 15: code. -/
namespace Go.Proofs.YthjnchjfmbblfaaGreatDoor
open Go.RowKit
set_option linter.unusedVariables false
attribute [local go_sem ↓] Go.wp_at_zero Go.wp_at_succ

/-- One instruction is read: the error, the instruction, the rest. -/
def stepI : List Int → Int × (Int × Int) × List Int
  | [] => (9, (0, 0), [])
  | x :: r => if (opAt x).2.2.2.2 then (if (wrd r).1 ≠ 0 then ((wrd r).1, (0, 0), []) else if 4294967296 ≤ (wrd r).2.1 then (2, (0, 0), []) else (0, (x, (wrd r).2.1), (wrd r).2.2)) else (0, (x, 0), r)
def codR : Nat → List Int → Int × List (Int × Int) × List Int
  | 0, S => (0, [], S)
  | k + 1, S =>
    if (codR k S).1 ≠ 0 then codR k S else
    if (stepI (codR k S).2.2).1 ≠ 0 then ((stepI (codR k S).2.2).1, [], []) else (0, (codR k S).2.1 ++ [(stepI (codR k S).2.2).2.1], (stepI (codR k S).2.2).2.2)
def codeR (S : List Int) : Int × List (Int × Int) × List Int :=
  if (wrd S).1 ≠ 0 then ((wrd S).1, [], []) else if 1024 < (wrd S).2.1 then (6, [], []) else codR (wrd S).2.1.toNat (wrd S).2.2
theorem stepI_cons (x : Int) (r : List Int) : stepI (x :: r) = if (opAt x).2.2.2.2 then (if (wrd r).1 ≠ 0 then ((wrd r).1, (0, 0), []) else if 4294967296 ≤ (wrd r).2.1 then (2, (0, 0), []) else (0, (x, (wrd r).2.1), (wrd r).2.2)) else (0, (x, 0), r) := rfl
theorem stepI_sub (S : List Int) : Sub S (stepI S).2.2 := by
  match S with
  | [] => exact Sub.refl _
  | x :: r =>
    have h1 : Sub (x :: r) r := ⟨1, rfl⟩
    have h0 : Sub (x :: r) [] := ⟨(x :: r).length, by simp⟩
    rw [stepI_cons]
    split
    · split
      · exact h0
      · split
        · exact h0
        · exact h1.trans (wrd_sub r)
    · exact h1
theorem codR_stuck (k : Nat) (S : List Int) (h : (codR k S).1 ≠ 0) : ∀ j, k ≤ j → codR j S = codR k S := by
  intro j
  induction j with
  | zero => intro hj; have h0 : k = 0 := (by omega); rw [h0]
  | succ j ih =>
    intro hj
    by_cases he : k = j + 1
    · rw [he]
    · have := ih (by omega)
      show (if (codR j S).1 ≠ 0 then codR j S else _) = _
      rw [this, if_pos h]
theorem codR_len (k : Nat) (S : List Int) : (codR k S).1 = 0 → (codR k S).2.1.length = k := by
  induction k with
  | zero => intro _; rfl
  | succ k ih =>
    intro h
    unfold codR at h ⊢
    by_cases h1 : (codR k S).1 ≠ 0
    · rw [if_pos h1] at h; exact absurd h h1
    · rw [if_neg h1] at h ⊢
      by_cases h2 : (stepI (codR k S).2.2).1 ≠ 0
      · rw [if_pos h2] at h; exact absurd h h2
      · rw [if_neg h2]
        simp only [List.length_append, List.length_singleton]
        rw [ih (Decidable.not_not.1 h1)]
theorem codR_sub (k : Nat) (S : List Int) : Sub S (codR k S).2.2 := by
  induction k with
  | zero => exact Sub.refl S
  | succ k ih =>
    unfold codR
    split
    · exact ih
    · split
      · exact ⟨S.length, by simp⟩
      · exact ih.trans (stepI_sub _)
theorem codR_err (k : Nat) (S : List Int) (h : (codR k S).1 ≠ 0) : (codR k S).2 = ([], []) := by
  induction k with
  | zero => exact absurd rfl h
  | succ k ih =>
    unfold codR at h ⊢
    by_cases h1 : (codR k S).1 ≠ 0
    · rw [if_pos h1]; exact ih h1
    · rw [if_neg h1] at h ⊢
      by_cases h2 : (stepI (codR k S).2.2).1 ≠ 0
      · rw [if_pos h2]
      · rw [if_neg h2] at h; exact absurd rfl h
def CodPost (w : World) (r : Int × List (Int × Int) × List Int) (x : Ending) (w' : World) : Prop :=
  ∃ vC v, x = .returned (.tuple #[vC, v, .int .i64 r.1]) ∧ w'.ownsRow w.heap.size 56 2 vC r.2.1.length (r.2.1.flatMap cI) ∧ Rd8 w' v r.2.2 ∧ Ext w w'

end Go.Proofs.YthjnchjfmbblfaaGreatDoor
