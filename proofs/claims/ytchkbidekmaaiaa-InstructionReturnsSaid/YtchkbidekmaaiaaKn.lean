/- InstructionReturns: the walk. -/
import Derived.Test.YtchkbidekmaaiaaKm
import Derived.Test.YtchkbidekmaaiaaJw
namespace Go.Proofs.Ytchkbidekmaaiaa
open Go.RowKit
set_option linter.unusedVariables false
attribute [local go_sem ↓] Go.wp_at_zero Go.wp_at_succ

set_option maxHeartbeats 4000000 in
set_option maxRecDepth 100000 in
theorem InstructionReturns_law (va : Value) (A : List (Bool × Int)) (L : Int) (vc : Value) (C : List (Int × Int)) (vm : Value) (M : List Int) (cut : Int) (hA : OkA A) (hL0 : -9223372036854775808 ≤ L) (hL1 : L ≤ 9223372036854775807) (hC : OkI C) (hM : Bytes M) (cu0 : 0 ≤ cut) (cu1 : cut ≤ 65535) (w : World)
    (ra : Rd w 2 va A.length (A.flatMap cA)) (rc : Rd w 2 vc C.length (C.flatMap cI)) (rm : Rd8 w vm M) :
    Calls Try.prog 6 #[.agg #[va, .int .i64 L, vc], vm, .int .u16 cut] w fun x w' => x = .returned (.bool true) ∧ Ext w w' := by
  have haw := awake_any
  replace haw := hidden haw
  have e1 := fun W (g : Ext w W) => iencode_any va vc A L C hA hC hL0 hL1 W (Rd.ext ra g) (Rd.ext rc g)
  obtain ⟨aa, ca, rfl, a1, a2, a3⟩ := Rd.shape ra
  obtain ⟨ac, cc, rfl, c1, c2, c3⟩ := Rd.shape rc
  obtain ⟨am, cm, rfl, m1, m2, m3⟩ := Rd.shape rm
  have RA : Arr w (.slice aa A.length ca) A := ra
  have RC : Cod w (.slice ac C.length cc) C := rc
  obtain ⟨na, hna⟩ : ∃ m, A.length = m := ⟨_, rfl⟩
  obtain ⟨nc, hnc⟩ : ∃ n, C.length = n := ⟨_, rfl⟩
  obtain ⟨nm, hnm⟩ : ∃ n, M.length = n := ⟨_, rfl⟩
  rw [hna] at RA a1
  rw [hnc] at RC c1
  rw [hnm] at m1
  simp only [hna, hnc] at e1 ⊢
  have RM : Rd8 w (.slice am M.length cm) M := rm
  rw [hnm] at RM ⊢
  have HB := Blk.new w [.slice aa na ca, .int .i64 L, .slice ac nc cc] 33
  have X0 := (Ext.refl w).alloc (.cells #[.slice aa na ca, .int .i64 L, .slice ac nc cc] 33)
  have p0 := HB.cell 0 _ rfl
  have p1 := HB.cell 1 _ rfl
  have p2 := HB.cell 2 _ rfl
  replace RA := hidden RA
  replace RC := hidden RC
  replace RM := hidden RM
  replace hnm := hidden hnm
  replace hM := hidden hM
  clear ra rc rm hna hnc
  by_cases hfew : na ≤ 40 ∧ nc ≤ 300 ∧ nm ≤ 40
  · obtain ⟨l1, l2, l3⟩ := hfew
    by_cases hz : formE A L C = 0
    · have hEn : encF A L C = (0, progB A L C) := by unfold encF; exact if_neg (by simp [hz])
      rw [hEn] at e1
      have hpl := prog_len A L C hz hC
      have hpb := prog_bytes A L C hz hC
      have hdec := dec_enc A L C hz hC M
      have htorn := dec_torn A L C hz hC
      obtain ⟨D, hD⟩ : ∃ D, progB A L C = D := ⟨_, rfl⟩
      rw [hD] at e1 hpl hpb hdec htorn
      obtain ⟨n, hn⟩ : ∃ n, D.length = n := ⟨_, rfl⟩
      rw [hn] at hpl htorn
      obtain ⟨n1, n2⟩ := hpl
      have hi0 : 0 ≤ cut % (n : Int) := Int.emod_nonneg _ (by omega)
      have hi1 : cut % (n : Int) < n := Int.emod_lt_of_pos _ (by omega)
      obtain ⟨i, hi⟩ := Int.eq_ofNat_of_zero_le hi0
      have hin : i < n := by omega
      have ht := htorn i hin
      have d1 := idecode_any
      have hbt : Bytes (D.take i) := fun x hx => hpb x (List.mem_of_mem_take hx)
      rw [dec_same _ (bytes_append hpb hM.out)] at hdec
      rw [dec_same _ hbt] at ht
      have hi' : Hid (cut % (n : Int) = (i : Int)) := hi
      replace hdec := hidden hdec
      replace ht := hidden ht
      replace e1 := hidden e1
      replace d1 := hidden d1
      replace hn := hidden hn
      replace hpb := hidden hpb
      replace hbt := hidden hbt
      replace hi0 := hidden hi0
      replace hi1 := hidden hi1
      clear hEn hD htorn hz hA hC hi
      obtain ⟨i0, hi, hz0, hz1, hz2⟩ := info_parts u8info
      go_enter Try.func6, Try.ntmps6
      go_wp2_with fail
      refine (e1.out _ X0).mono ?_
      rintro e w1 ⟨b, rfl, hO1, g1⟩
      have X1 := X0.trans g1
      have HB1 := HB.ext g1
      obtain ⟨ab, cb, rfl, b1, b2, b3⟩ := Rd.shape hO1.rd
      have R1 : Rd8 w1 (.slice ab D.length cb) D := hO1.rd
      rw [hn.out] at R1 b1 hO1 ⊢
      obtain ⟨bb, off, rfl, -⟩ := Rd8.some R1 (by rw [hn.out]; omega)
      have Rn : Rd w1 1 (.slice (some ⟨bb, off, none⟩) n cb) n (bs D) := by
        have g := R1
        unfold Rd8 at g
        rw [hn.out] at g
        exact g
      obtain ⟨ai, ci, hrun, Ri⟩ := cut_h (P := Try.prog) (t := 34) Try.underlying34 Try.sizeOf5 Rn i (cut % (n : Int)) hi'.out (by omega)
      have Ri' : Rd8 w1 (.slice ai i ci) (D.take i) := by
        unfold Rd8
        rw [List.length_take, hn.out, Nat.min_eq_left (by omega), show bs (D.take i) = (bs D).take (i * 1) by simp [bs, List.map_take]]
        exact Ri
      have M1 : Rd w1 1 (.slice am nm cm) nm (bs M) := by
        have g := Rd.ext RM.out X1
        rw [hnm.out] at g
        exact g
      replace R1 := hidden R1
      replace Rn := hidden Rn
      replace Ri' := hidden Ri'
      replace M1 := hidden M1
      replace HB1 := hidden HB1
      have hOz := own_zero w1 5 1
      clear p0 p1 p2 HB Ri hO1 g1 X0
      go_wp2_with (first
        | (at_builtin; refine wpList_append_rd rfl (.tmp 48) (.tmp 49) 34 rfl w1.heap.size 5 i0 (.int .u8 0) 1 1 Try.underlying34 hi hz0 hz1 hz2 rfl (by decide) (.slice (some ⟨w1.heap.size, 0, none⟩) 0 0) 0 [] rfl hOz (some ⟨bb, off, none⟩) n cb (bs D) rfl (Rd.alloc Rn.out _) (bs_one D) (by unfold maxLen; omega) (by omega) (by simp) ?_; intro v4 w4 hown4 hgrow4 hat4; have Y4 : Ext w1 w4 := (((Chg.refl [] w1).alloc _).grown hgrow4 (fun k hk => Or.inr (by simp [Value.ownBlock] at hk; omega))).ext; have hs4 := Y4.size)
        | (at_builtin; refine wpList_append_rd rfl (.tmp 50) (.tmp 51) 34 rfl w1.heap.size 5 i0 (.int .u8 0) 1 1 Try.underlying34 hi hz0 hz1 hz2 rfl (by decide) v4 (0 + n) ([] ++ bs D) rfl hown4 am nm cm (bs M) rfl (Rd.ext M1.out Y4) (bs_one M) (by unfold maxLen; omega) (by omega) (by omega) ?_; intro v5 w5 hown5 hgrow5 hat5))
      have Y5 : Ext w1 w5 := ((Chg.of_ext [] Y4).grown hgrow5 (fun k hk => Or.inr (own_lt hown4 hk).1)).ext
      have R5 : Rd8 w5 v5 (D ++ M) := by
        have g := Rd.of_own hown5
        unfold Rd8
        rw [bs_app, List.length_append, hn.out, hnm.out]
        simpa using g
      have hl5 : (D ++ M).length ≤ 900000 := by rw [List.length_append, hn.out, hnm.out]; omega
      have hb5 : Bytes (D ++ M) := bytes_append hpb.out hM.out
      clear hown4 hgrow4 hat4 hown5 hgrow5 hat5 Y4 hs4 hOz
      refine (d1.out v5 (D ++ M) hb5 hl5 _ R5).mono ?_
      rw [hdec.out]
      rintro e w6 ⟨qA, qC, qr, rfl, oA, oC, oR, g6⟩
      obtain ⟨aA, cA1, rfl, -, -, -⟩ := own_shape oA
      obtain ⟨aC, cC1, rfl, -, -, -⟩ := own_shape oC
      have BP6 := Blk.new w6 [.slice aA A.length cA1, .int .i64 L, .slice aC C.length cC1] 33
      have Z6 := (Ext.refl w6).alloc (.cells #[.slice aA A.length cA1, .int .i64 L, .slice aC C.length cC1] 33)
      have Y6 := (Y5.trans g6).trans Z6
      have Ri6 := Rd.ext Ri'.out Y6
      have li6 : (D.take i).length ≤ 900000 := by rw [List.length_take, hn.out]; omega
      have rA : Arr w6 (.slice aA A.length cA1) A := Rd.of_own oA
      have rC : Cod w6 (.slice aC C.length cC1) C := Rd.of_own oC
      have rR : Rd8 w6 qr M := Rd.of_own oR
      replace BP6 := hidden BP6
      replace rA := hidden rA
      replace rC := hidden rC
      replace rR := hidden rR
      replace hb5 := hidden hb5
      replace R5 := hidden R5
      clear oA oC oR g6 Y5
      have hi01 := hi0.out
      go_wp2_with fail
      refine (d1.out (.slice ai i ci) (D.take i) hbt.out li6 _ Ri6).mono ?_
      rw [ht.out, show errD 9 = ⟨9, [], 0, [], []⟩ from rfl]
      rintro e w7 ⟨tA, tC, tr, rfl, pA, pC, pR, g7⟩
      obtain ⟨bA, dA1, rfl, -, -, -⟩ := own_shape pA
      obtain ⟨bC, dC1, rfl, -, -, -⟩ := own_shape pC
      have Z7 := g7.alloc (.cells #[.slice bA 0 dA1, .int .i64 0, .slice bC 0 dC1] 33)
      have Y7 := Y6.trans Z7
      have ZZ := Z6.trans Z7
      have BP7 := (BP6.out).ext Z7
      have HB7 := HB1.out.ext Y7
      have X7 := X1.trans Y7
      have hsm := sameprog_any (.slice aa na ca) (.slice ac nc cc) (.slice aA A.length cA1) (.slice aC C.length cC1) A A L L C C _ (Rd.ext RA.out X7) (Rd.ext RC.out X7) (Rd.ext rA.out ZZ) (Rd.ext rC.out ZZ)
      rw [show sameP A A L L C C = true by simp [sameP]] at hsm
      have hsb := fun W (g : Ext (w7.alloc (.cells #[.slice bA 0 dA1, .int .i64 0, .slice bC 0 dC1] 33)) W) => same_any qr (.slice am nm cm) M M W (Rd.ext (Rd.ext rR.out ZZ) g) (Rd.ext (Rd.ext RM.out X7) g)
      simp only [decide_true] at hsb
      have p0 := HB7.cell 0 _ rfl
      have p1 := HB7.cell 1 _ rfl
      have p2 := HB7.cell 2 _ rfl
      have q0 := BP7.cell 0 _ rfl
      have q1 := BP7.cell 1 _ rfl
      have q2 := BP7.cell 2 _ rfl
      replace hsm := hidden hsm
      replace hsb := hidden hsb
      clear hrun pA pC pR g7 Z7 Y7 ZZ BP7 HB7 Y6 Z6 Ri6
      go_wp2_with fail
      refine hsm.out.mono ?_
      rintro e w8 ⟨rfl, g8⟩
      go_wp2_with fail
      refine (hsb.out _ g8).mono ?_
      rintro e w9 ⟨rfl, g9⟩
      go_wp2_with fail
      refine (haw.out _).mono ?_
      rintro e w10 ⟨rfl, g10⟩
      go_wp2_with fail
      go_ret
      exact ⟨rfl, ((X7.trans g8).trans g9).trans g10⟩
    · have hEn : encF A L C = (formE A L C, []) := by unfold encF; exact if_pos hz
      obtain ⟨f, hf⟩ : ∃ f, formE A L C = f := ⟨_, rfl⟩
      rw [hEn] at e1
      rw [hf] at e1 hz
      have hz' : (f != 0) = true := by simp [hz]
      replace e1 := hidden e1
      clear hEn hf hz hA hC
      go_enter Try.func6, Try.ntmps6
      go_wp2_with fail
      refine (e1.out _ X0).mono ?_
      rintro e w1 ⟨b, rfl, hO1, g1⟩
      obtain ⟨ab, cb, rfl, b1, b2, b3⟩ := Rd.shape hO1.rd
      have X1 := X0.trans g1
      simp only [List.length_nil]
      clear hO1 b1 p0 p1 p2
      go_wp2_with fail
      refine (haw.out _).mono ?_
      rintro e w10 ⟨rfl, g10⟩
      go_wp2_with fail
      go_ret
      exact ⟨rfl, X1.trans g10⟩
  · have hX : Hid (Ext w (w.alloc (.cells #[.slice aa na ca, .int .i64 L, .slice ac nc cc] 33))) := X0
    by_cases l1 : 40 < na
    · clear hfew e1
      go_enter Try.func6, Try.ntmps6
      go_wp2_with fail
      refine (haw.out _).mono ?_
      rintro e w10 ⟨rfl, g10⟩
      go_wp2_with fail
      go_ret
      exact ⟨rfl, hX.out.trans g10⟩
    · by_cases l2 : 300 < nc
      · clear hfew e1
        go_enter Try.func6, Try.ntmps6
        go_wp2_with fail
        refine (haw.out _).mono ?_
        rintro e w10 ⟨rfl, g10⟩
        go_wp2_with fail
        go_ret
        exact ⟨rfl, hX.out.trans g10⟩
      · have l3 : 40 < nm := by omega
        clear hfew e1
        go_enter Try.func6, Try.ntmps6
        go_wp2_with fail
        refine (haw.out _).mono ?_
        rintro e w10 ⟨rfl, g10⟩
        go_wp2_with fail
        go_ret
        exact ⟨rfl, hX.out.trans g10⟩
end Go.Proofs.Ytchkbidekmaaiaa
