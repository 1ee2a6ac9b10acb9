/- The reference of layer 15: Decode. -/
import Derived.Test.YtchkbidekmaaiaaKh
import Derived.Test.YtchkbidekmaaiaaJt
import Derived.Test.YtchkbidekmaaiaaRl
namespace Go.Proofs.Ytchkbidekmaaiaa
open Go.RowKit
set_option linter.unusedVariables false
attribute [local go_sem ↓] Go.wp_at_zero Go.wp_at_succ

set_option maxHeartbeats 6000000 in
set_option maxRecDepth 100000 in
theorem rdecode_any (v : Value) (S : List Int) (hb : Bytes S) (hS : S.length ≤ 900000) (w : World) (hR : Rd8 w v S) :
    Calls Try.prog 18 #[v] w (DecPost w (decR S)) := by
  have h1 := decR_1 S
  have h2 := fun (A : List (Bool × Int)) (T : List Int) => @decR_2 S A T
  have h3 := fun (A : List (Bool × Int)) (T : List Int) => @decR_3 S A T
  have h4 := fun (A : List (Bool × Int)) (T U : List Int) (C : List (Int × Int)) => @decR_4 S A T U C
  replace h1 := hidden h1
  replace h2 := hidden h2
  replace h3 := hidden h3
  replace h4 := hidden h4
  have X0 := (Ext.refl w).alloc (.cells #[.slice none 0 0, .int .i64 0, .slice none 0 0] 33)
  have BR : Blk (w.alloc (.cells #[.slice none 0 0, .int .i64 0, .slice none 0 0] 33)) w.heap.size 33 [.slice none 0 0, .int .i64 0, .slice none 0 0] := Blk.new w _ _
  have ca := rarrays_any v S hb hS (w.alloc (.cells #[.slice none 0 0, .int .i64 0, .slice none 0 0] 33)) (Rd.alloc hR _)
  have hri := rint_any
  have hco := rcode_any
  have hfo := rform_any
  obtain ⟨R, hRe⟩ : ∃ R, arraysR S = R := ⟨_, rfl⟩
  have hok : R.1 = 0 → OkA R.2.1 ∧ Sub S R.2.2 ∧ 0 ≤ R.2.1.length ∧ R.2.1.length ≤ 8 := by rw [← hRe]; exact arraysR_ok S hb
  rw [hRe] at ca
  replace hRe := hidden hRe
  obtain ⟨e0, A, T⟩ := R
  simp only at hok
  replace hok := hidden hok
  replace hri := hidden hri
  replace hco := hidden hco
  replace hfo := hidden hfo
  replace ca := hidden ca
  replace hb := hidden hb
  clear hR
  go_enter Try.func18, Try.ntmps18
  go_wp2_with fail
  refine ca.out.mono ?_
  rintro e w1 ⟨vA, v1, rfl, oA, R1, g1⟩
  have BR1 := BR.ext g1
  have X1 := X0.trans g1
  have oA1 : w1.ownsRow w.heap.size 72 2 vA A.length (A.flatMap cA) := own_mono oA (by simp)
  clear oA g1 ca X0 BR
  by_cases he0 : e0 = 0
  · subst he0
    obtain ⟨okA, hsT, -, lA⟩ := hok.out rfl
    have hbT : Hid (Bytes T) := hsT.bytes hb.out
    have hlT : T.length ≤ 900000 := Nat.le_trans hsT.len hS
    have hint := hri.out v1 T hbT.out hlT _ R1
    have hnum := wrd_num T hbT.out
    have hsub : Sub T (wrd T).2.2 := wrd_sub T
    have h2' := h2.out A T hRe.out
    have h3' := h3.out A T hRe.out
    have h4' := fun (U : List Int) (C : List (Int × Int)) => h4.out A T U C hRe.out
    obtain ⟨N, hN⟩ : ∃ N, wrd T = N := ⟨_, rfl⟩
    rw [hN] at hint hnum hsub h2' h3'
    simp only [hN] at h4'
    obtain ⟨e1, L, T2⟩ := N
    simp only at hnum hsub h2' h3' h4'
    have hbT2 : Hid (Bytes T2) := hsub.bytes hbT.out
    have hlT2 : T2.length ≤ 900000 := Nat.le_trans hsub.len hlT
    replace hint := hidden hint
    replace hnum := hidden hnum
    replace h2' := hidden h2'
    replace h3' := hidden h3'
    replace h4' := hidden h4'
    replace okA := hidden okA
    clear hN hsT hsub h1 h2 h3 h4
    go_wp2_with fail
    refine hint.out.mono ?_
    rintro e w2 ⟨v2, rfl, hO2, g2⟩
    have BR2 := BR1.ext g2
    have X2 := X1.trans g2
    have oA2 := own_ext oA1 g2
    have R2 := hO2.rd
    clear oA1 BR1 X1 R1 g2 hint
    by_cases he1 : e1 = 0
    · subst he1
      obtain ⟨L0, L1⟩ := hnum.out rfl
      have hcc := hco.out v2 T2 hbT2.out hlT2 _ R2
      have hokC := codeR_ok T2 hbT2.out
      have h3'' := fun e he h => h3'.out rfl e he h
      obtain ⟨Q, hQ⟩ : ∃ Q, codeR T2 = Q := ⟨_, rfl⟩
      rw [hQ] at hcc hokC h3''
      have h4'' := fun (U : List Int) (C : List (Int × Int)) => h4'.out U C rfl
      simp only [hQ] at h4''
      obtain ⟨e2, C, U⟩ := Q
      simp only at hokC h3''
      replace hcc := hidden hcc
      replace hokC := hidden hokC
      replace h3'' := hidden h3''
      replace h4'' := hidden h4''
      clear hQ hO2 h3' h4' h2'
      go_wp2_with fail
      refine hcc.out.mono ?_
      rintro e w3 ⟨vC, v3, rfl, oC, R3, g3⟩
      have BR3 := BR2.ext g3
      have X3 := X2.trans g3
      have oA3 := own_ext oA2 g3
      have oC3 : w3.ownsRow w.heap.size 53 2 vC C.length (C.flatMap cI) := own_mono oC X2.size
      clear oA2 BR2 X2 R2 g3 hcc oC
      by_cases he2 : e2 = 0
      · subst he2
        obtain ⟨okC, hsU⟩ := hokC.out rfl
        have hfin := h4''.out U C rfl
        have hlU : U.length ≤ 900000 := Nat.le_trans hsU.len hlT2
        obtain ⟨F, hF⟩ : ∃ F, formE A L C = F := ⟨_, rfl⟩
        rw [hF] at hfin
        obtain ⟨aA, cA1, rfl, -, -, -⟩ := own_shape oA3
        obtain ⟨aC, cC1, rfl, -, -, -⟩ := own_shape oC3
        obtain ⟨av, cv, rfl, -, -, -⟩ := Rd.shape R3
        have BP := Blk.new w3 [.slice aA A.length cA1, .int .i64 L, .slice aC C.length cC1] 33
        have BR4 := BR3.alloc (.cells #[.slice aA A.length cA1, .int .i64 L, .slice aC C.length cC1] 33)
        have X4 := X3.alloc (.cells #[.slice aA A.length cA1, .int .i64 L, .slice aC C.length cC1] 33)
        have oA4 := World.ownsRow.alloc oA3 (.cells #[.slice aA A.length cA1, .int .i64 L, .slice aC C.length cC1] 33)
        have oC4 := World.ownsRow.alloc oC3 (.cells #[.slice aA A.length cA1, .int .i64 L, .slice aC C.length cC1] 33)
        have R4 : Rd8 (w3.alloc (.cells #[.slice aA A.length cA1, .int .i64 L, .slice aC C.length cC1] 33)) (.slice av U.length cv) U := Rd.alloc R3 _
        have hform := hfo.out (.slice aA A.length cA1) (.slice aC C.length cC1) A L C okA.out okC (by omega) (by omega) _ (Rd.of_own oA4) (Rd.of_own oC4)
        rw [hF] at hform
        replace hform := hidden hform
        replace hfin := hidden hfin
        have hw3 := X3.size
        have hlt3 := BR3.lt
        clear BR3 X3 oA3 oC3 R3 okC hsU hF hokC h3'' h4''
        go_wp2_with fail
        refine hform.out.mono ?_
        rintro e w5 ⟨rfl, g5⟩
        have BP5 := BP.ext g5
        have BR5 := BR4.ext g5
        have X5 := X4.trans g5
        have oA5 := own_ext oA4 g5
        have oC5 := own_ext oC4 g5
        have R5 := Rd.ext R4 g5
        have hqp : Hid (w3.heap.size ≠ w.heap.size) := by show _ ≠ _; omega
        have hqs := BP5.lt
        clear BP BR4 X4 oA4 oC4 R4 g5 hform
        by_cases hF0 : F = 0
        · subst hF0
          have hD : Hid (decR S = ⟨0, A, L, C, U⟩) := by show _ = _; rw [hfin.out]; exact if_neg (by simp)
          obtain ⟨i0, hi, hz0, hz1, hz2⟩ := info_parts u8info
          have BP6 := BP5.alloc (.cells #[] 5)
          have BR6 := BR5.alloc (.cells #[] 5)
          have X6 := X5.alloc (.cells #[] 5)
          have oA6 := World.ownsRow.alloc oA5 (.cells #[] 5)
          have oC6 := World.ownsRow.alloc oC5 (.cells #[] 5)
          have O0 : ((w5.alloc (.cells #[] 5)).drew).ownsRow w5.heap.size 5 1 (.slice (some ⟨w5.heap.size, 0, none⟩) 0 0) 0 [] := own_zero w5 5 1
          have HR : Rd8 ((w5.alloc (.cells #[] 5)).drew) (.slice av U.length cv) U := (Rd.alloc R5 _).drew
          have p0 := BP5.cell 0 _ rfl
          have p1 := BP5.cell 1 _ rfl
          have p2 := BP5.cell 2 _ rfl
          have p3 := BP6.cell 0 _ rfl
          have p4 := BP6.cell 1 _ rfl
          have p5 := BP6.cell 2 _ rfl
          have hs6 := BR5.lt
          have hs5 := X5.size
          have hnr : Hid ((Value.slice (some ⟨w5.heap.size, 0, none⟩) 0 0).ownBlock ≠ some w.heap.size) := fun e => by simp only [Value.ownBlock, Option.some.injEq] at e; omega
          have hnp : Hid ((Value.slice (some ⟨w5.heap.size, 0, none⟩) 0 0).ownBlock ≠ some w3.heap.size) := fun e => by simp only [Value.ownBlock, Option.some.injEq] at e; omega
          replace BP6 := hidden BP6
          replace BR6 := hidden BR6
          replace X6 := hidden X6
          replace oA6 := hidden oA6
          replace oC6 := hidden oC6
          replace oA5 := hidden oA5
          replace oC5 := hidden oC5
          clear BP5 BR5 X5 R5 hri hco hfo hfin hnum hok okA
          go_wp2_with fail
          rename_i KK hKK
          go_region_law (first | (refine step_append_rd (by rfl) _ _ 34 (by rfl) w5.heap.size 5 i0 (.int .u8 0) 1 1 Try.underlying34 hi hz0 hz1 hz2 rfl (by decide) (.slice (some ⟨w5.heap.size, 0, none⟩) 0 0) 0 [] (by rfl) O0 av U.length cv (bs U) (by rfl) HR (bs_one U) (by unfold maxLen; omega) (by omega) (by simp) ?_; intro v8 w8 hown8 hgrow8; rw [Nat.zero_add, List.nil_append] at hown8; obtain ⟨a8, k8, rfl, -, -, -⟩ := Rd.shape (Rd.of_own hown8); have P8 := (BP6.out.drew).grown hgrow8 hnp.out; have R8 := (BR6.out.drew).grown hgrow8 hnr.out; have b0 := P8.cell 0 _ rfl; have b1 := P8.cell 1 _ rfl; have b2 := P8.cell 2 _ rfl; have r0 := R8.cell 0 _ rfl; have r1 := R8.cell 1 _ rfl; have r2 := R8.cell 2 _ rfl; have y0 := R8.frozen 0; have y1 := R8.frozen 1; have y2 := R8.frozen 2))
          all_goals
            have R9 := ((R8.set 0 (.slice aA A.length cA1)).set 1 (.int .i64 L)).set 2 (.slice aC C.length cC1)
            have q7 := R9.cell 0 _ rfl
            have q8 := R9.cell 1 _ rfl
            have q9 := R9.cell 2 _ rfl
            have hC9 := (((Chg.refl [w.heap.size] w8).setCell (p := ⟨w.heap.size, 0, none⟩) (Or.inl (by simp)) (.slice aA A.length cA1)).setCell (p := ⟨w.heap.size, 1, none⟩) (Or.inl (by simp)) (.int .i64 L)).setCell (p := ⟨w.heap.size, 2, none⟩) (Or.inl (by simp)) (.slice aC C.length cC1)
            have hCg : Chg [w5.heap.size] ((w5.alloc (.cells #[] 5)).drew) w8 := (Chg.refl _ _).grown hgrow8 (fun k hk => Or.inl (by simp [Value.ownBlock] at hk; simp [hk]))
            have oA8 := own_chg (own_ext oA6.out (Ext.refl _).drew) hCg (fun x hx hv => by simp at hx; have := (own_lt oA5.out hv).2; omega)
            have oC8 := own_chg (own_ext oC6.out (Ext.refl _).drew) hCg (fun x hx hv => by simp at hx; have := (own_lt oC5.out hv).2; omega)
            have oA9 := own_chg oA8 hC9 (fun x hx hv => by simp at hx; subst hx; exact own_ne_blk oA8 R8 (by decide) hv)
            have oC9 := own_chg oC8 hC9 (fun x hx hv => by simp at hx; subst hx; exact own_ne_blk oC8 R8 (by decide) hv)
            have o89 := own_chg hown8 hC9 (fun x hx hv => by simp at hx; have := (own_lt hown8 hv).1; omega)
            have X9 := (((Chg.of_ext [] X6.out.drew).trans hCg (fun x hx => Or.inr (by simp at hx; omega))).trans hC9 (fun x hx => Or.inr (by simp at hx; omega))).ext
            show KK _ _
            refine hKK _ _ ?_
            refine wp_ret ?_
            refine bodyPost_ret (v := .tuple #[.agg #[.slice aA A.length cA1, .int .i64 L, .slice aC C.length cC1], .slice a8 U.length k8, .int .i64 0]) (by simp [results, Try.results18, go_sem, q7, q8, q9]) rfl ?_
            show DecPost w (decR S) _ _
            rw [hD.out]
            exact ⟨_, _, _, rfl, oA9, oC9, own_mono o89 hs5, X9⟩
        · have hF1 : (F != 0) = true := by simp [hF0]
          have hD : Hid (decR S = errD F) := by show _ = _; rw [hfin.out]; exact if_pos hF0
          have y0 := BR5.frozen 0
          have y1 := BR5.frozen 1
          have y2 := BR5.frozen 2
          have r0 := BR5.cell 0 _ rfl
          have r1 := BR5.cell 1 _ rfl
          have r2 := BR5.cell 2 _ rfl
          have R6 := ((BR5.set 0 (.slice none 0 0)).set 1 (.int .i64 0)).set 2 (.slice none 0 0)
          have q0 := R6.cell 0 _ rfl
          have q1 := R6.cell 1 _ rfl
          have q2 := R6.cell 2 _ rfl
          have X6 := (((Chg.of_ext [] X5).setCell (p := ⟨w.heap.size, 0, none⟩) (Or.inr (Nat.le_refl _)) (.slice none 0 0)).setCell (p := ⟨w.heap.size, 1, none⟩) (Or.inr (Nat.le_refl _)) (.int .i64 0)).setCell (p := ⟨w.heap.size, 2, none⟩) (Or.inr (Nat.le_refl _)) (.slice none 0 0)
          clear BR5 R6 X5 BP5 oA5 oC5 R5
          go_wp2_with fail
          refine bodyPost_ret (v := .tuple #[.agg #[.slice none 0 0, .int .i64 0, .slice none 0 0], .slice none 0 0, .int .i64 F]) (by simp [results, Try.results18, go_sem, q0, q1, q2]) rfl ?_
          show DecPost w (decR S) _ _
          rw [hD.out]
          exact ⟨_, _, _, rfl, World.ownsRow_nil _ _ _ _, World.ownsRow_nil _ _ _ _, World.ownsRow_nil _ _ _ _, X6.ext⟩
      · have he1' : (e2 != 0) = true := by simp [he2]
        have hD : Hid (decR S = errD e2) := h3''.out e2 he2 rfl
        have y0 := BR3.frozen 0
        have y1 := BR3.frozen 1
        have y2 := BR3.frozen 2
        have r0 := BR3.cell 0 _ rfl
        have r1 := BR3.cell 1 _ rfl
        have r2 := BR3.cell 2 _ rfl
        have R6 := ((BR3.set 0 (.slice none 0 0)).set 1 (.int .i64 0)).set 2 (.slice none 0 0)
        have q0 := R6.cell 0 _ rfl
        have q1 := R6.cell 1 _ rfl
        have q2 := R6.cell 2 _ rfl
        have X6 := (((Chg.of_ext [] X3).setCell (p := ⟨w.heap.size, 0, none⟩) (Or.inr (Nat.le_refl _)) (.slice none 0 0)).setCell (p := ⟨w.heap.size, 1, none⟩) (Or.inr (Nat.le_refl _)) (.int .i64 0)).setCell (p := ⟨w.heap.size, 2, none⟩) (Or.inr (Nat.le_refl _)) (.slice none 0 0)
        clear BR3 R6 X3 oA3 oC3 R3
        go_wp2_with fail
        refine bodyPost_ret (v := .tuple #[.agg #[.slice none 0 0, .int .i64 0, .slice none 0 0], .slice none 0 0, .int .i64 e2]) (by simp [results, Try.results18, go_sem, q0, q1, q2]) rfl ?_
        show DecPost w (decR S) _ _
        rw [hD.out]
        exact ⟨_, _, _, rfl, World.ownsRow_nil _ _ _ _, World.ownsRow_nil _ _ _ _, World.ownsRow_nil _ _ _ _, X6.ext⟩
    · have he1' : (e1 != 0) = true := by simp [he1]
      have hD : Hid (decR S = errD e1) := h2'.out he1
      have y0 := BR2.frozen 0
      have y1 := BR2.frozen 1
      have y2 := BR2.frozen 2
      have r0 := BR2.cell 0 _ rfl
      have r1 := BR2.cell 1 _ rfl
      have r2 := BR2.cell 2 _ rfl
      have R6 := ((BR2.set 0 (.slice none 0 0)).set 1 (.int .i64 0)).set 2 (.slice none 0 0)
      have q0 := R6.cell 0 _ rfl
      have q1 := R6.cell 1 _ rfl
      have q2 := R6.cell 2 _ rfl
      have X6 := (((Chg.of_ext [] X2).setCell (p := ⟨w.heap.size, 0, none⟩) (Or.inr (Nat.le_refl _)) (.slice none 0 0)).setCell (p := ⟨w.heap.size, 1, none⟩) (Or.inr (Nat.le_refl _)) (.int .i64 0)).setCell (p := ⟨w.heap.size, 2, none⟩) (Or.inr (Nat.le_refl _)) (.slice none 0 0)
      clear BR2 R6 X2 oA2 R2 hO2
      go_wp2_with fail
      refine bodyPost_ret (v := .tuple #[.agg #[.slice none 0 0, .int .i64 0, .slice none 0 0], .slice none 0 0, .int .i64 e1]) (by simp [results, Try.results18, go_sem, q0, q1, q2]) rfl ?_
      show DecPost w (decR S) _ _
      rw [hD.out]
      exact ⟨_, _, _, rfl, World.ownsRow_nil _ _ _ _, World.ownsRow_nil _ _ _ _, World.ownsRow_nil _ _ _ _, X6.ext⟩
  · have he0' : (e0 != 0) = true := by simp [he0]
    have hD : Hid (decR S = errD e0) := h1.out e0 he0 (by rw [hRe.out])
    have y0 := BR1.frozen 0
    have y1 := BR1.frozen 1
    have y2 := BR1.frozen 2
    have r0 := BR1.cell 0 _ rfl
    have r1 := BR1.cell 1 _ rfl
    have r2 := BR1.cell 2 _ rfl
    have R6 := ((BR1.set 0 (.slice none 0 0)).set 1 (.int .i64 0)).set 2 (.slice none 0 0)
    have q0 := R6.cell 0 _ rfl
    have q1 := R6.cell 1 _ rfl
    have q2 := R6.cell 2 _ rfl
    have X6 := (((Chg.of_ext [] X1).setCell (p := ⟨w.heap.size, 0, none⟩) (Or.inr (Nat.le_refl _)) (.slice none 0 0)).setCell (p := ⟨w.heap.size, 1, none⟩) (Or.inr (Nat.le_refl _)) (.int .i64 0)).setCell (p := ⟨w.heap.size, 2, none⟩) (Or.inr (Nat.le_refl _)) (.slice none 0 0)
    clear BR1 R6 X1 oA1 R1
    go_wp2_with fail
    refine bodyPost_ret (v := .tuple #[.agg #[.slice none 0 0, .int .i64 0, .slice none 0 0], .slice none 0 0, .int .i64 e0]) (by simp [results, Try.results18, go_sem, q0, q1, q2]) rfl ?_
    show DecPost w (decR S) _ _
    rw [hD.out]
    exact ⟨_, _, _, rfl, World.ownsRow_nil _ _ _ _, World.ownsRow_nil _ _ _ _, World.ownsRow_nil _ _ _ _, X6.ext⟩
end Go.Proofs.Ytchkbidekmaaiaa
