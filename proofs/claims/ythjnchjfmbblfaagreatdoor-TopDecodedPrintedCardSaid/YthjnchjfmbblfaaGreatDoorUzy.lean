/- TopDecodedPrinted: the walk. -/
import Derived.Test.YthjnchjfmbblfaaGreatDoorUzx
namespace Go.Proofs.YthjnchjfmbblfaaGreatDoor
open Go.RowKit Go.ChangeMaps Go.MapKept
set_option linter.unusedVariables false
set_option linter.unusedSimpArgs false
attribute [local go_sem ↓] Go.wp_at_zero Go.wp_at_succ

set_option maxHeartbeats 16000000 in
set_option maxRecDepth 100000 in
theorem TopDecodedPrinted_law (vb : Value) (S : List Int) (hb : Bytes S) (w : World) (hR : Rd8 w vb S) (hErr : ErrR w) (hT : TabH w) :
    Calls Tryz.prog 4 #[vb] w fun e w' => e = .returned (.bool true) ∧ Ext w w' := by
  obtain ⟨ab, cb, rfl, -⟩ := Rd.shape hR
  obtain ⟨n, hn⟩ : ∃ n, S.length = n := ⟨_, rfl⟩
  rw [hn]
  by_cases hbig : 600 < n
  · have hb1 : (600 : Int) < (n : Int) := by omega
    clear hErr hT hR hb
    replace hn := hidden hn
    go_enter Tryz.func4, Tryz.ntmps4
    go_wp2_with fail
    go_ret
    exact ⟨rfl, Ext.refl _⟩
  · have hb1 : ¬ (600 : Int) < (n : Int) := by omega
    have hdec := idecode_any (.slice ab S.length cb) S hb (by omega) w hR
    rw [hn] at hdec
    rcases dec_facts S hb with ⟨e, he, hD⟩ | ⟨A, L, C, r, hD, hS, hz, hokA, hokC⟩
    · rw [hD] at hdec
      unfold DecPost at hdec
      have hne' : (e != 0) = true := by simpa using he
      replace hdec := hidden hdec
      clear hErr hT hR hb hD
      replace hn := hidden hn
      go_enter Tryz.func4, Tryz.ntmps4
      go_wp2_with fail
      refine hdec.out.mono ?_
      rintro x w1 ⟨vA, vC, vr, rfl, oA, oC, oR, X1⟩
      obtain ⟨aA, cA1, rfl, -, -, -⟩ := own_shape oA
      obtain ⟨aC, cC1, rfl, -, -, -⟩ := own_shape oC
      obtain ⟨ar, cr, rfl, -, -, -⟩ := own_shape oR
      have HB := Blk.new w1 [.slice aA 0 cA1, .int .i64 0, .slice aC 0 cC1] 25
      have p2 := HB.cell 2 _ rfl
      simp only [List.length_nil]
      clear oA oC oR
      go_wp2_with fail
      go_ret
      exact ⟨rfl, X1.alloc _⟩
    · rw [hD] at hdec
      unfold DecPost at hdec
      simp only at hdec
      have hLb := form_ok hz
      obtain ⟨hk1, hk2, hk3, hk4, hk5, -, -⟩ := hLb
      have hL0 : -9223372036854775808 ≤ L := by omega
      have hL1 : L ≤ 9223372036854775807 := by omega
      obtain ⟨l, hl⟩ : ∃ l, r.length = l := ⟨_, rfl⟩
      have hln : l ≤ n := by rw [← hl, ← hn, hS, List.length_append]; omega
      have hln' : ¬ (n : Int) < (l : Int) := by omega
      have hR' : Rd8 w (.slice ab n cb) S := by rw [← hn]; exact hR
      have hpr := fun vA vC W (hW : Ext w W) (rA : Arr W vA A) (rC : Cod W vC C) => print_any vA vC A L C hokA hokC hL0 hL1 W rA rC (hT.ext hW)
      have hpf := Src.print_form hz
      have hprd := fun (h : (Src.printF A L C).2 = 0) => Src.print_read hokC h
      have henc := fun vA vC W (rA : Arr W vA A) (rC : Cod W vC C) => iencode_any vA vC A L C hokA hokC hL0 hL1 W rA rC
      rw [show encF A L C = (0, progB A L C) by unfold encF; exact if_neg (by simp [hz])] at henc
      obtain ⟨D, hDD⟩ : ∃ D, progB A L C = D := ⟨_, rfl⟩
      rw [hDD] at henc hS
      have hDn : D.length + l = n := by rw [← hl, ← hn, hS, List.length_append]
      unfold PrintR at hpr
      replace hdec := hidden hdec
      replace hpr := hidden hpr
      replace henc := hidden henc
      replace hR' := hidden hR'
      replace hn := hidden hn
      replace hl := hidden hl
      replace hS := hidden hS
      replace hDn := hidden hDn
      replace hb := hidden hb
      clear hR hD hokA hokC hDD hL0 hL1 hk1 hk2 hk4 hk5 hz hln
      obtain ⟨i0, hi, hz0, hz1, hz2⟩ := info_parts u8info
      go_enter Tryz.func4, Tryz.ntmps4
      go_wp2_with fail
      refine hdec.out.mono ?_
      rintro x w1 ⟨vA, vC, vr, rfl, oA, oC, oR, X1⟩
      have rA : Arr w1 vA A := Rd.of_own oA
      have rC : Cod w1 vC C := Rd.of_own oC
      have rR : Rd8 w1 vr r := Rd.of_own oR
      obtain ⟨aA, kA, aC, kC, rfl, rfl⟩ := shapes rA rC
      obtain ⟨ar, cr, rfl, -⟩ := Rd.shape rR
      rw [hl.out] at rR
      rw [hl.out]
      obtain ⟨nA, hnA⟩ : ∃ n, A.length = n := ⟨_, rfl⟩
      obtain ⟨nC, hnC⟩ : ∃ n, C.length = n := ⟨_, rfl⟩
      rw [hnA] at rA
      rw [hnC] at rC
      rw [hnA, hnC]
      have HB := Blk.new w1 [.slice aA nA kA, .int .i64 L, .slice aC nC kC] 25
      have XB : Ext w1 (w1.alloc (.cells #[.slice aA nA kA, .int .i64 L, .slice aC nC kC] 25)) := (Ext.refl w1).alloc _
      obtain ⟨w2, hw2⟩ : ∃ w2, w1.alloc (.cells #[.slice aA nA kA, .int .i64 L, .slice aC nC kC] 25) = w2 := ⟨_, rfl⟩
      obtain ⟨q, hq⟩ : ∃ q, w1.heap.size = q := ⟨_, rfl⟩
      rw [hq] at HB
      rw [hw2] at HB XB
      have X2 := hidden (X1.trans XB)
      have hp2 := hidden (hpr.out (.slice aA nA kA) (.slice aC nC kC) w2 X2.out (Rd.ext rA XB) (Rd.ext rC XB))
      have rR2 := hidden (Rd.ext rR XB)
      have p0 := HB.cell 0 _ rfl
      have p1 := HB.cell 1 _ rfl
      have p2 := HB.cell 2 _ rfl
      replace hnA := hidden hnA
      replace hnC := hidden hnC
      clear X1 XB rA rC rR oA oC oR HB
      go_wp2_with fail
      refine hp2.out.mono ?_
      rintro x w3 ⟨rfl, X3⟩
      have X3' := hidden (X2.out.trans X3)
      have rR3 := hidden (Rd.ext rR2.out X3)
      clear X3 p0 p1 p2
      rcases hpf with h0 | h7 | h5
      · obtain ⟨hrd, -, hLn⟩ := hprd h0
        obtain ⟨tx, htx⟩ : ∃ l, (Src.printF A L C).1 = l := ⟨_, rfl⟩
        have htlen : tx.length ≤ 8192 := by
          have h1 := (Src.print_ok h0)
          rw [← htx, h1.2.2.2]
          exact h1.2.2.1
        rw [h0, htx]
        rw [htx] at hrd
        have hsz : (ba tx).size ≤ 1000000 := by show tx.toArray.size ≤ _; simp; omega
        have has2 := assemble_any (ba tx) hsz w3 (hErr.ext X3'.out)
        rw [show (ba tx).data.toList = tx from rfl] at has2
        unfold AsmR at has2
        rw [hrd] at has2
        simp only [Src.rsAt, List.length_map, List.length_range, hLn] at has2
        replace has2 := hidden has2
        clear hrd h0 htx htlen hsz hpr hprd hErr hT
        go_wp2_with fail
        refine has2.out.mono ?_
        rintro x w4 ⟨vB, vD, rfl, rB, rD, X4⟩
        obtain ⟨aB, kB, aD, kD, rfl, rfl⟩ := shapes rB rD
        rw [hnA.out] at rB
        rw [hnC.out] at rD
        rw [hnA.out, hnC.out]
        have HC := Blk.new w4 [.slice aB nA kB, .int .i64 L, .slice aD nC kD] 25
        have XC : Ext w4 (w4.alloc (.cells #[.slice aB nA kB, .int .i64 L, .slice aD nC kD] 25)) := (Ext.refl w4).alloc _
        obtain ⟨w5, hw5⟩ : ∃ w5, w4.alloc (.cells #[.slice aB nA kB, .int .i64 L, .slice aD nC kD] 25) = w5 := ⟨_, rfl⟩
        obtain ⟨q', hq'⟩ : ∃ q, w4.heap.size = q := ⟨_, rfl⟩
        rw [hq'] at HC
        rw [hw5] at HC XC
        have rB5 := Rd.ext rB XC
        have rD5 := Rd.ext rD XC
        have Y5 := hidden (X4.trans XC)
        have c0 := HC.cell 0 _ rfl
        have c1 := HC.cell 1 _ rfl
        have c2 := HC.cell 2 _ rfl
        have he5 := hidden (henc.out (.slice aB nA kB) (.slice aD nC kD) w5 rB5 rD5)
        clear X4 XC rB rD rB5 rD5 HC
        go_wp2_with fail
        refine he5.out.mono ?_
        rintro x w6 ⟨vc, rfl, hO, X6⟩
        unfold Own8 at hO
        obtain ⟨g, kc, rfl, -, -, -⟩ := own_shape hO
        have R3 := hidden ((show Rd w3 1 (.slice ar l cr) l (bs r) by have h := rR3.out; unfold Rd8 at h; rw [hl.out] at h; exact h).ext ((Y5.out).trans X6))
        have Z5 := hidden (X3'.out.trans Y5.out)
        have hs6 := X6.size
        have hDb : D.length + l ≤ 600 := by have := hDn.out; omega
        have V6 := hidden X6
        replace hO := hidden hO
        clear X6 c0 c1 c2
        go_wp2_with (at_builtin; (refine wpList_wanted (by rfl) ?_); (refine wpList_append_rd rfl (.tmp 64) (.tmp 65) 36 rfl w5.heap.size 5 i0 (.int .u8 0) 1 1 Tryz.underlying36 hi hz0 hz1 hz2 rfl (by decide) (.slice g D.length kc) D.length (bs D) rfl hO.out ar l cr (bs r) rfl R3.out (bs_one r) (by unfold maxLen; omega) (by omega) (by omega) ?_); intro v7 w7 hO7 hG7 hA7
                     have Y7 : Ext w5 w7 := ((Chg.of_ext [] V6.out).grown hG7 (fun k hk => Or.inr (own_lt hO.out hk).1)).ext
                     have R7 : Rd8 w7 v7 S := by
                       have g7 := Rd.of_own hO7
                       unfold Rd8
                       rw [hS.out, bs_app, List.length_append, hl.out]
                       exact g7
                     have hq7 := hidden (bytes_same v7 (.slice ab n cb) S w7 R7 (Rd.ext hR'.out (Z5.out.trans Y7)))
                     have Z7 := hidden (Z5.out.trans Y7)
                     clear hO7 hG7 hA7 Y7 R7)
        refine hq7.out.mono ?_
        rintro x w8 ⟨rfl, rfl⟩
        go_wp2_with fail
        go_ret
        exact ⟨rfl, Z7.out⟩
      · rw [h7]
        go_wp2_with fail
        go_ret
        exact ⟨rfl, X3'.out⟩
      · rw [h5]
        go_wp2_with fail
        go_ret
        exact ⟨rfl, X3'.out⟩
end Go.Proofs.YthjnchjfmbblfaaGreatDoor
