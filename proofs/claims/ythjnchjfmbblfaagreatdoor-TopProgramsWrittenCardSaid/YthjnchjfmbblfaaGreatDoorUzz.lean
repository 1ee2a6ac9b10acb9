/- TopProgramsWritten: the walk. -/
import Derived.Test.YthjnchjfmbblfaaGreatDoorUzx
namespace Go.Proofs.YthjnchjfmbblfaaGreatDoor
open Go.RowKit Go.ChangeMaps Go.MapKept
set_option linter.unusedVariables false
set_option linter.unusedSimpArgs false
attribute [local go_sem ↓] Go.wp_at_zero Go.wp_at_succ

set_option maxHeartbeats 16000000 in
set_option maxRecDepth 100000 in
theorem TopProgramsWritten_law (va : Value) (A : List (Bool × Int)) (L : Int) (vc : Value) (C : List (Int × Int)) (vm : Value) (M : List Int) (hA : OkA A) (hL0 : -9223372036854775808 ≤ L) (hL1 : L ≤ 9223372036854775807) (hC : OkI C) (hM : Bytes M) (w : World)
    (ra : Rd w 2 va A.length (A.flatMap cA)) (rc : Rd w 2 vc C.length (C.flatMap cI)) (rm : Rd8 w vm M) (hErr : ErrR w) (hT : TabH w) :
    Calls Tryz.prog 5 #[.agg #[va, .int .i64 L, vc], vm] w fun x w' => x = .returned (.bool true) ∧ Ext w w' := by
  have hpr := fun vA vC W (hW : Ext w W) (rA : Arr W vA A) (rC : Cod W vC C) => print_any vA vC A L C hA hC hL0 hL1 W rA rC (hT.ext hW)
  have henc := fun vA vC W (rA : Arr W vA A) (rC : Cod W vC C) => iencode_any vA vC A L C hA hC hL0 hL1 W rA rC
  unfold PrintR at hpr
  have RA : Arr w va A := ra
  have RC : Cod w vc C := rc
  obtain ⟨aa, ca, ac, cc, rfl, rfl⟩ := shapes RA RC
  obtain ⟨am, cm, rfl, -⟩ := Rd.shape rm
  obtain ⟨na, hna⟩ : ∃ m, A.length = m := ⟨_, rfl⟩
  obtain ⟨nc, hnc⟩ : ∃ n, C.length = n := ⟨_, rfl⟩
  obtain ⟨nm, hnm⟩ : ∃ n, M.length = n := ⟨_, rfl⟩
  rw [hna] at RA
  rw [hnc] at RC
  simp only [hna, hnc] at ⊢
  have RM : Rd8 w (.slice am M.length cm) M := rm
  rw [hnm] at RM ⊢
  have HB := Blk.new w [.slice aa na ca, .int .i64 L, .slice ac nc cc] 25
  have X0 := (Ext.refl w).alloc (.cells #[.slice aa na ca, .int .i64 L, .slice ac nc cc] 25)
  obtain ⟨w1, hw1⟩ : ∃ w1, w.alloc (.cells #[.slice aa na ca, .int .i64 L, .slice ac nc cc] 25) = w1 := ⟨_, rfl⟩
  obtain ⟨q, hq⟩ : ∃ q, w.heap.size = q := ⟨_, rfl⟩
  rw [hq, hw1] at HB
  rw [hw1] at X0
  have p0 := HB.cell 0 _ rfl
  have p1 := HB.cell 1 _ rfl
  have p2 := HB.cell 2 _ rfl
  by_cases l1 : 300 < nc
  · have l1' : (300 : Int) < (nc : Int) := by omega
    replace X0 := hidden X0
    clear hErr hT hA hC hM ra rc rm hpr henc RA RC RM HB
    go_enter Tryz.func5, Tryz.ntmps5
    go_wp2_with fail
    go_ret
    exact ⟨rfl, X0.out⟩
  by_cases l2 : 100 < nm
  · have l1' : ¬ (300 : Int) < (nc : Int) := by omega
    have l2' : (100 : Int) < (nm : Int) := by omega
    replace X0 := hidden X0
    clear hErr hT hA hC hM ra rc rm hpr henc RA RC RM HB
    go_enter Tryz.func5, Tryz.ntmps5
    go_wp2_with fail
    go_ret
    exact ⟨rfl, X0.out⟩
  have l1' : ¬ (300 : Int) < (nc : Int) := by omega
  have l2' : ¬ (100 : Int) < (nm : Int) := by omega
  have RA1 := hidden (Rd.ext RA X0)
  have RC1 := hidden (Rd.ext RC X0)
  have hp1 := hidden (hpr (.slice aa na ca) (.slice ac nc cc) w1 X0 RA1.out RC1.out)
  by_cases hf : (Src.printF A L C).2 ≠ 0
  · have hbad := Src.print_bad hf
    obtain ⟨f, hff⟩ : ∃ f, (Src.printF A L C).2 = f := ⟨_, rfl⟩
    rw [hbad, hff] at hp1
    rw [hff] at hf
    have hne' : (f != 0) = true := by simpa using hf
    have hem : (ba []).toList.isEmpty = true := by kernel_rfl
    replace X0 := hidden X0
    clear hErr hT hA hC hM ra rc rm hpr henc RA RC RM HB hf hff hbad
    go_enter Tryz.func5, Tryz.ntmps5
    go_wp2_with fail
    refine hp1.out.mono ?_
    rintro x w2 ⟨rfl, X2⟩
    go_wp2_with fail
    go_ret
    exact ⟨rfl, X0.out.trans X2⟩
  · have hf0 : (Src.printF A L C).2 = 0 := by omega
    obtain ⟨hrd, hz, hLn⟩ := Src.print_read hC hf0
    obtain ⟨tx, htx⟩ : ∃ l, (Src.printF A L C).1 = l := ⟨_, rfl⟩
    have htlen : tx.length ≤ 8192 := by
      have h1 := (Src.print_ok hf0)
      rw [← htx, h1.2.2.2]
      exact h1.2.2.1
    rw [htx] at hrd
    have hsz : (ba tx).size ≤ 1000000 := by show tx.toArray.size ≤ _; simp; omega
    have hasm := fun W (hW : Ext w W) => assemble_any (ba tx) hsz W (hErr.ext hW)
    rw [show (ba tx).data.toList = tx from rfl] at hasm
    unfold AsmR at hasm
    rw [hrd] at hasm
    simp only [Src.rsAt, List.length_map, List.length_range, hLn] at hasm
    rw [show encF A L C = (0, progB A L C) by unfold encF; exact if_neg (by simp [hz])] at henc
    have hpl := prog_len A L C hz hC
    have hpb := prog_bytes A L C hz hC
    have hdec := dec_enc A L C hz hC M
    obtain ⟨D, hD⟩ : ∃ D, progB A L C = D := ⟨_, rfl⟩
    rw [hD] at henc hpl hpb hdec
    obtain ⟨n, hn⟩ : ∃ n, D.length = n := ⟨_, rfl⟩
    rw [hn] at hpl
    rw [dec_same _ (bytes_append hpb hM)] at hdec
    have hk := form_ok hz
    have hnn : n ≤ 800000 := by have := hk.1; omega
    simp only [hf0, htx] at hpr hp1
    have hsA : A.length ≤ 1000000 := by have := hk.1; omega
    have hsC : C.length ≤ 1000000 := by have := hk.2.2.2.2.1; omega
    have hsame := fun vA vC W (hW : Ext w1 W) (rA : Arr W vA A) (rC : Cod W vC C) => same_any (.slice aa na ca) (.slice ac nc cc) vA vC A L C hsA hsC W (Rd.ext RA1.out hW) (Rd.ext RC1.out hW) rA rC
    obtain ⟨TX, hTX⟩ : ∃ t, ba tx = t := ⟨_, rfl⟩
    simp only [hTX] at hasm hpr hp1
    have hteq : (TX == TX) = true := (bytes_beq TX TX).2 rfl
    obtain ⟨i0, hi, hz0, hz1, hz2⟩ := info_parts u8info
    replace X0 := hidden X0
    replace RM := hidden RM
    replace HB := hidden HB
    replace hpr := hidden hpr
    replace henc := hidden henc
    replace hasm := hidden hasm
    replace hsame := hidden hsame
    replace hdec := hidden hdec
    replace hpb := hidden hpb
    replace hM := hidden hM
    replace hn := hidden hn
    replace hna := hidden hna
    replace hnc := hidden hnc
    replace hnm := hidden hnm
    clear hErr hT hA hC ra rc rm RA RC hf hf0 hrd hz hLn htx htlen hsz hD hpl hk hsA hsC hTX hL0 hL1
    go_enter Tryz.func5, Tryz.ntmps5
    go_wp2_with fail
    refine hp1.out.mono ?_
    rintro x w2 ⟨rfl, X2⟩
    have H2 := HB.out.ext X2
    have q0 := H2.cell 0 _ rfl
    have q1 := H2.cell 1 _ rfl
    have q2 := H2.cell 2 _ rfl
    have Y2 := hidden X2
    have he2 := hidden (henc.out (.slice aa na ca) (.slice ac nc cc) w2 (Rd.ext RA1.out X2) (Rd.ext RC1.out X2))
    clear X2 H2 p0 p1 p2
    go_wp2_with fail
    refine he2.out.mono ?_
    rintro x w3 ⟨vd, rfl, hO3, X3⟩
    have RD3 : Rd8 w3 vd D := Rd.of_own hO3
    obtain ⟨ad, cd, rfl, -⟩ := Rd.shape RD3
    rw [hn.out] at RD3
    rw [hn.out]
    have Y3 := hidden (Y2.out.trans X3)
    have ha3 := hidden (hasm.out w3 (X0.out.trans Y3.out))
    replace RD3 := hidden RD3
    clear X3 hO3 q0 q1 q2
    go_wp2_with fail
    refine ha3.out.mono ?_
    rintro x w4 ⟨vB, vD, rfl, rB, rD, X4⟩
    obtain ⟨aB, kB, aD, kD, rfl, rfl⟩ := shapes rB rD
    rw [hna.out] at rB
    rw [hnc.out] at rD
    rw [hna.out, hnc.out]
    have HC := Blk.new w4 [.slice aB na kB, .int .i64 L, .slice aD nc kD] 25
    have XC : Ext w4 (w4.alloc (.cells #[.slice aB na kB, .int .i64 L, .slice aD nc kD] 25)) := (Ext.refl w4).alloc _
    obtain ⟨w5, hw5⟩ : ∃ w5, w4.alloc (.cells #[.slice aB na kB, .int .i64 L, .slice aD nc kD] 25) = w5 := ⟨_, rfl⟩
    obtain ⟨q', hq'⟩ : ∃ q, w4.heap.size = q := ⟨_, rfl⟩
    rw [hq'] at HC
    rw [hw5] at HC XC
    have rB5 := hidden (Rd.ext rB XC)
    have rD5 := hidden (Rd.ext rD XC)
    have Z5 := hidden (X4.trans XC)
    have Y5 := hidden ((Y3.out.trans X4).trans XC)
    have Rn5 : Rd w5 1 (.slice ad n cd) n (bs D) := by
      have g := Rd.ext RD3.out Z5.out
      rw [hn.out] at g
      exact g
    have Rm5 : Rd w5 1 (.slice am nm cm) nm (bs M) := by
      have g := Rd.ext RM.out (X0.out.trans Y5.out)
      rw [hnm.out] at g
      exact g
    replace Rn5 := hidden Rn5
    replace Rm5 := hidden Rm5
    replace HC := hidden HC
    have hOz := own_zero w5 5 1
    clear X4 XC rB rD
    go_wp2_with (first
      | (at_builtin; (refine wpList_append_rd rfl (.tmp 49) (.tmp 50) 36 rfl w5.heap.size 5 i0 (.int .u8 0) 1 1 Tryz.underlying36 hi hz0 hz1 hz2 rfl (by decide) (.slice (some ⟨w5.heap.size, 0, none⟩) 0 0) 0 [] rfl hOz ad n cd (bs D) rfl (Rd.alloc Rn5.out _) (bs_one D) (by unfold maxLen; omega) (by omega) (by simp) ?_); intro v6 w6 hO6 hG6 hA6; have X6 : Ext w5 w6 := (((Chg.refl [] w5).alloc _).grown hG6 (fun k hk => Or.inr (by simp [Value.ownBlock] at hk; omega))).ext; have hs6 := X6.size)
      | (at_builtin; (refine wpList_append_rd rfl (.tmp 51) (.tmp 52) 36 rfl w5.heap.size 5 i0 (.int .u8 0) 1 1 Tryz.underlying36 hi hz0 hz1 hz2 rfl (by decide) v6 (0 + n) ([] ++ bs D) rfl hO6 am nm cm (bs M) rfl (Rd.ext Rm5.out X6) (bs_one M) (by unfold maxLen; omega) (by omega) (by omega) ?_); intro v7 w7 hO7 hG7 hA7))
    have X7 : Ext w5 w7 := ((Chg.of_ext [] X6).grown hG7 (fun k hk => Or.inr (own_lt hO6 hk).1)).ext
    have R7 : Rd8 w7 v7 (D ++ M) := by
      have g := Rd.of_own hO7
      unfold Rd8
      rw [bs_app, List.length_append, hn.out, hnm.out]
      simpa using g
    have hl7 : (D ++ M).length ≤ 900000 := by rw [List.length_append, hn.out, hnm.out]; omega
    have hd7 := idecode_any v7 (D ++ M) (bytes_append hpb.out hM.out) hl7 w7 R7
    rw [hdec.out] at hd7
    replace hd7 := hidden hd7
    have Y7 := hidden (Y5.out.trans X7)
    have Z7 := hidden (Z5.out.trans X7)
    have V7 := hidden X7
    clear hO6 hG6 hA6 hO7 hG7 hA7 X6 hs6 hOz X7 R7 hl7
    refine hd7.out.mono ?_
    rintro x w8 ⟨qA, qC, qr, rfl, oA, oC, oR, X8⟩
    have sA : Arr w8 qA A := Rd.of_own oA
    have sC : Cod w8 qC C := Rd.of_own oC
    have sR : Rd8 w8 qr M := Rd.of_own oR
    obtain ⟨bA, jA, bC, jC, rfl, rfl⟩ := shapes sA sC
    obtain ⟨br, jr, rfl, -⟩ := Rd.shape sR
    rw [hna.out] at sA
    rw [hnc.out] at sC
    rw [hna.out, hnc.out, hnm.out]
    rw [hnm.out] at sR
    have HE := Blk.new w8 [.slice bA na jA, .int .i64 L, .slice bC nc jC] 25
    have XE : Ext w8 (w8.alloc (.cells #[.slice bA na jA, .int .i64 L, .slice bC nc jC] 25)) := (Ext.refl w8).alloc _
    obtain ⟨w9, hw9⟩ : ∃ w9, w8.alloc (.cells #[.slice bA na jA, .int .i64 L, .slice bC nc jC] 25) = w9 := ⟨_, rfl⟩
    obtain ⟨q'', hq''⟩ : ∃ q, w8.heap.size = q := ⟨_, rfl⟩
    rw [hq''] at HE
    rw [hw9] at HE XE
    have sA9 := hidden (Rd.ext sA XE)
    have sC9 := hidden (Rd.ext sC XE)
    have sR9 := Rd.ext sR XE
    have V9 := hidden ((V7.out.trans X8).trans XE)
    have Y9 := hidden ((Y7.out.trans X8).trans XE)
    have Z9 := hidden ((Z7.out.trans X8).trans XE)
    have he9 := hidden (bytes_same (.slice br nm jr) (.slice am nm cm) M w9 sR9 (Rd.ext RM.out (X0.out.trans Y9.out)))
    replace HE := hidden HE
    clear X8 XE sA sC sR sR9 oA oC oR
    go_wp2_with fail
    refine he9.out.mono ?_
    rintro x w10 ⟨rfl, rfl⟩
    have H9 := HB.out.ext Y9.out
    have C9 := HC.out.ext V9.out
    have E9 := HE.out
    have a0 := H9.cell 0 _ rfl
    have a1 := H9.cell 1 _ rfl
    have a2 := H9.cell 2 _ rfl
    have c0 := C9.cell 0 _ rfl
    have c1 := C9.cell 1 _ rfl
    have c2 := C9.cell 2 _ rfl
    have e0 := E9.cell 0 _ rfl
    have e1 := E9.cell 1 _ rfl
    have e2 := E9.cell 2 _ rfl
    have hs9 := hidden (hsame.out (.slice aB na kB) (.slice aD nc kD) _ Y9.out (Rd.ext rB5.out V9.out) (Rd.ext rD5.out V9.out))
    have ht9 := hidden (fun W (g : Ext _ W) => hsame.out (.slice bA na jA) (.slice bC nc jC) W (Y9.out.trans g) (Rd.ext sA9.out g) (Rd.ext sC9.out g))
    clear H9 C9 E9
    go_wp2_with fail
    refine hs9.out.mono ?_
    rintro x w11 ⟨rfl, X11⟩
    replace a0 := X11.cell a0
    replace a1 := X11.cell a1
    replace a2 := X11.cell a2
    replace c0 := X11.cell c0
    replace c1 := X11.cell c1
    replace c2 := X11.cell c2
    replace e0 := X11.cell e0
    replace e1 := X11.cell e1
    replace e2 := X11.cell e2
    have V11 := hidden X11
    clear X11
    go_wp2_with fail
    refine (ht9.out _ V11.out).mono ?_
    rintro x w12 ⟨rfl, X12⟩
    replace c0 := X12.cell c0
    replace c1 := X12.cell c1
    replace c2 := X12.cell c2
    have V12 := hidden ((V9.out.trans V11.out).trans X12)
    have Y12 := hidden ((Y9.out.trans V11.out).trans X12)
    have Z12 := hidden ((Z9.out.trans V11.out).trans X12)
    have hp12 := hidden (hpr.out (.slice aB na kB) (.slice aD nc kD) w12 (X0.out.trans Y12.out) (Rd.ext rB5.out V12.out) (Rd.ext rD5.out V12.out))
    clear X12 a0 a1 a2 e0 e1 e2
    go_wp2_with fail
    refine hp12.out.mono ?_
    rintro x w13 ⟨rfl, X13⟩
    replace c0 := X13.cell c0
    replace c1 := X13.cell c1
    replace c2 := X13.cell c2
    have V13 := hidden (V12.out.trans X13)
    have Y13 := hidden (Y12.out.trans X13)
    have Z13 := hidden (Z12.out.trans X13)
    have hc13 := hidden (henc.out (.slice aB na kB) (.slice aD nc kD) w13 (Rd.ext rB5.out V13.out) (Rd.ext rD5.out V13.out))
    clear X13
    go_wp2_with fail
    refine hc13.out.mono ?_
    rintro x w14 ⟨vf, rfl, hO14, X14⟩
    have RF : Rd8 w14 vf D := Rd.of_own hO14
    obtain ⟨af, cf, rfl, -⟩ := Rd.shape RF
    rw [hn.out] at RF
    rw [hn.out]
    have hq14 := hidden (bytes_same (.slice ad n cd) (.slice af n cf) D w14 (Rd.ext RD3.out (Z13.out.trans X14)) RF)
    have Y14 := hidden ((X0.out.trans Y13.out).trans X14)
    clear X14 RF hO14 c0 c1 c2
    go_wp2_with fail
    refine hq14.out.mono ?_
    rintro x w15 ⟨rfl, rfl⟩
    go_wp2_with fail
    go_ret
    exact ⟨rfl, Y14.out⟩
end Go.Proofs.YthjnchjfmbblfaaGreatDoor
