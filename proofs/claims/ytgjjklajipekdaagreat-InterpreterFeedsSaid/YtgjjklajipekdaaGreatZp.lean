
import Derived.Test.YtgjjklajipekdaaGreatZn
import Derived.Test.YtgjjklajipekdaaGreatZk
namespace Go.Proofs.YtgjjklajipekdaaGreat
set_option maxHeartbeats 16000000
set_option maxRecDepth 100000
open Go.RowKit
set_option linter.unusedVariables false
set_option linter.unusedSimpArgs false
attribute [local go_sem ↓] Go.wp_at_zero Go.wp_at_succ
theorem rblk30 (w : World) (B q : Nat) (V : Vs) (X : EV) (E : Env) (s : MS) (h : MSt LR w B q V X E s) (hB : B ≤ w.heap.size) (hs : OkS E s) (hE : OkE E) (hp0 : 0 ≤ s.pc) (hp1 : s.pc < E.C.length) (y : Int) (t0 : Bool) (vl : Value) (hl : Rd w 2 vl 1 ([(y, t0)].flatMap vcR)) (hyu : U32 y) (hns : leaveF E y s ≠ .stuck) :
  Calls Tryz.prog 57 #[.pointer (some ⟨q, 0, none⟩), .int .i64 30, vl] w (RP w B q V X E (leaveF E y s)) := by
 obtain ⟨lv, lc, rfl, -⟩ := Rd.shape hl
 obtain ⟨lb, lo, rfl, -, -⟩ := Rd.cells hl (by decide)
 have g1 := rd_at hl 1 _ rfl
 obtain ⟨p, hpp⟩ := Int.eq_ofNat_of_zero_le hp0
 have hP0 := hE.P0
 have hC0 := hE.C0
 have hpP : p < E.P.length := by omega
 have hpC : p < E.C.length := by omega
 obtain ⟨bP, oP, cP, hvP, hcP, -, -, hcp⟩ := h.env.part_at (k := p) hpP
 obtain ⟨tg, hto⟩ := ex (E.P.getD p 0)
 rw [hto] at hcp
 have c3 := h.cell 3 _ rfl
 change w.cell? ⟨q, 3, none⟩ = some X.p at c3
 rw [hvP] at c3
 have c14 := h.cell 14 (.int .i64 (p : Int)) (by show some (Value.int .i64 s.pc) = _; rw [hpp])
 have htt : ∀ t : Nat, toF E s.pc = some t → tg = (t : Int) ∧ t < E.C.length := by
  intro t ht
  obtain ⟨t1, t2, t3, t4⟩ := toF_some ht
  rw [hpp, Int.toNat_natCast, hto] at t3
  exact ⟨t3, t4⟩
 obtain ⟨nP, hnP⟩ := ex E.P.length
 rw [hnP] at c3 hcP hpP hP0
 have hpi : (p : Int) < (nP : Int) := by omega
 have hI := hidden h
 have hsI := hidden hs
 have hEI := hidden hE
 have htt := hidden htt
 have hppI := hidden hpp
 have hp0I := hidden hp0
 have hp1I := hidden hp1
 replace hto := hidden hto
 obtain ⟨i0, hi, hz0, hz1, hz2⟩ := info_parts rframe_info
 have hrow := h.row 3 _ rfl
 have hst := h.row 2 _ rfl
 unfold Row.own at hrow hst
 simp only at hrow hst
 have c11 := h.cell 11 _ rfl
 have c9 := h.cell 9 _ rfl
 have c2 := h.cell 2 _ rfl
 change w.cell? ⟨q, 2, none⟩ = some X.c at c2
 have h8 := hs.fr
 have h32 := hs.st
 have hfrv := hidden hs.frv
 obtain ⟨av, cv, hV0, hcv, hcv2, hg⟩ := own_shape hrow
 obtain ⟨as', cs', hVs, -, -, -⟩ := own_shape hst
 cases hll0 : llF s.fr s.fr.length with
 | none => unfold leaveF at hns; rw [hll0] at hns; exact absurd rfl hns
 | some k0 =>
 have hnpos : 0 < s.fr.length := by
  rcases Nat.eq_zero_or_pos s.fr.length with h0 | h0
  ·rw [h0] at hll0; cases hll0
  ·exact h0
 obtain ⟨g, rfl, hg1, hg2⟩ := hg hnpos
 have hfc := hidden (fun (j i : Nat) (u : Value) (hj : j < s.fr.length) (hu : (fcR (s.fr.getD j noF))[i]? = some u) => own_cell (by rw [hV0] at hrow; exact hrow) (j * 3 + i) u (flat_at (E := fcR) (m := 3) (fun _ => rfl) (frame_at hj) hu))
 have hRd := hidden (fun (m : Nat) (hm : m ≤ s.fr.length) => show Rd w 3 (.slice (some ⟨g, 0, none⟩) m cv) m ((s.fr.take m).flatMap fcR) by
  have h1 := Rd.of_own (own_cut (by rw [hV0] at hrow; exact hrow) hm)
  have h3 : (s.fr.flatMap LR.fc).take (m * 3) = (s.fr.take m).flatMap fcR := flat_take (sz := 3) (E := fcR) (fun _ => rfl) ..
  change Rd w 3 (.slice (some ⟨g, 0, none⟩) m cv) m ((s.fr.flatMap LR.fc).take (m * 3)) at h1
  rw [h3] at h1
  exact h1)
 have hcode := hidden (fun (k : Nat) (hk : k < E.C.length) => h.env.code_at (k := k) hk)
 obtain ⟨bC, oC, cC, hvC, hcC, -⟩ := h.env.code_at (k := p) hpC
 rw [hvC] at c2
 obtain ⟨nC, hnC⟩ := ex E.C.length
 obtain ⟨n, hn⟩ := ex s.fr.length
 obtain ⟨ns, hnse⟩ := ex s.st.length
 rw [hV0, hn] at c11
 rw [hVs, hnse] at c9
 rw [hn] at hnpos hcv h8 hfc hll0 hRd
 rw [hnse] at h32
 rw [hnC] at c2 hcC hC0
 have hcut := fun (j : Nat) (hj : j ≤ n) => cut_own (P := Tryz.prog) Tryz.underlying87 (sz := 3) (fun w => by simp [go_sem, hi, hz1]) n cv j (some ⟨g, 0, none⟩) (j : Int) rfl hj hcv
 replace hcut := hidden hcut
 have hw1 : IntKind.i64.wrap ((n : Int) - 1) = (n : Int) - 1 := IntWalk.i64_in _ (by omega)
 have hia := hidden hi
 replace hll0 := hidden hll0
 replace hn := hidden hn
 replace hnse := hidden hnse
 replace hnC := hidden hnC
 replace hV0 := hidden hV0
 replace hVs := hidden hVs
 replace hvC := hidden hvC
 clear hrow hst hi hg1 hg2
 obtain ⟨R, hR⟩ := ex (leaveF E y s)
 rw [hR] at hns ⊢
 clear h hs hE hpp hnP hvP hl hp0 hp1
 replace hns := hidden hns
 go_enter Tryz.func57, Tryz.ntmps57
 go_upto_region 1 with fail
 refine wp_region_D (S := fun w' => w'.cell? ⟨q, 3, none⟩ = some (.slice (some ⟨bP, oP, none⟩) nP cP) ∧ w'.cell? ⟨q, 14, none⟩ = some (.int .i64 (p : Int)) ∧ w'.cell? ⟨bP, oP + p, none⟩ = some (.int .i64 tg)) (D := []) (by kernel_rfl) ⟨c3, c14, hcp⟩ (fun HS => ?_)
 refine tk 0 [] (.pointer (some ⟨q, 0, none⟩)) HS ?_; try simp only [sx]
 refine tk 1 [] (.pointer (some ⟨q, 0, none⟩)) HS ?_; try simp only [sx]
 refine tk 2 [] (.pointer (some ⟨q, 3, none⟩)) HS ?_; try simp only [sx]
 refine tk 3 [] (.slice (some ⟨bP, oP, none⟩) nP cP) HS ?_; try simp only [sx]
 refine tk 4 [] (.pointer (some ⟨q, 0, none⟩)) HS ?_; try simp only [sx]
 refine tk 5 [] (.pointer (some ⟨q, 0, none⟩)) HS ?_; try simp only [sx]
 refine tk 6 [] (.pointer (some ⟨q, 14, none⟩)) HS ?_; try simp only [sx]
 refine tk 7 [] (.int .i64 (p : Int)) HS ?_; try simp only [sx]
 refine tk 8 [] (.pointer (some ⟨bP, oP + p, none⟩)) HS ?_; try simp only [sx]
 refine tk 9 [] (.int .i64 tg) HS ?_; try simp only [sx]
 refine tk 10 [] (.int .i64 tg) HS ?_; try simp only [sx]
 refine wpAnyD_done (by kernel_rfl) ?_ _
 show _
 have XW := (Ext.refl w).drew
 have e1 := XW.cell g1
 have e14 := XW.cell c14
 have hMI := hidden (hI.out.ext XW)
 have hBW := hidden (Nat.le_trans hB XW.size)
 have f14 := (hI.out.ext XW).blk.frozen 14
 obtain ⟨W, hW⟩ := ex w.drew
 rw [hW] at XW e1 e14 hMI hBW f14 ⊢
 have XWI := hidden XW
 replace hW := hidden hW
 clear XW HS g1 c14 c3 hcp
 have d11 := XWI.out.cell c11
 have d9 := XWI.out.cell c9
 have d2 := XWI.out.cell c2
 go_wp2_with fail
 clear c11 c9 c2
 go_loopw [8] (fun kx wr => ∃ j : Nat, j < n ∧ kx = .int .i64 (j : Int) ∧ Hid (llF s.fr (j + 1) = some k0) ∧ Hid (Ext W wr)) (fun kx _ => (intOf kx).toNat)
 case atStart => exact ⟨n - 1, by omega, by rw [show ((n - 1 : Nat) : Int) = (n : Int) - 1 by omega], hidden (by rw [show n - 1 + 1 = n by omega]; exact hll0.out), hidden (Ext.refl W)⟩
 case round =>
  obtain ⟨j, hjn, rfl, hll, hXr⟩ := hrel
  obtain ⟨f, hf⟩ := ex (s.fr.getD j noF)
  have hjn2 : (j : Int) < (n : Int) := by omega
  have XR := hidden (XWI.out.trans hXr.out)
  have da := XR.out.cell (hfc.out j 0 (.int .i64 f.beg) hjn (by rw [hf]; rfl))
  have db := XR.out.cell (hfc.out j 1 (.int .i64 f.base) hjn (by rw [hf]; rfl))
  rw [Nat.add_zero] at da
  have b11 := hXr.out.cell d11
  have b9 := hXr.out.cell d9
  have b2 := hXr.out.cell d2
  have b1 := hXr.out.cell e1
  obtain ⟨q1, q2, q3, q4, q5, -, -⟩ := hfrv.out f (by rw [← hf]; exact getD_mem (by rw [hn.out]; exact hjn))
  have hle := hll.out
  unfold llF at hle
  rw [hf] at hle
  obtain ⟨bs, bg, lf, lp⟩ := f
  simp only at q1 q2 q3 q4 q5 da db hle
  obtain ⟨bk, rfl⟩ := Int.eq_ofNat_of_zero_le q3
  have dc := XR.out.cell (by obtain ⟨x1, x2, x3, y1, y2, -, -, y3, -⟩ := hcode.out bk (by omega); rw [y1] at hvC; have := hvC.out; simp only [Value.slice.injEq, Option.some.injEq, Addr.mk.injEq] at this; obtain ⟨⟨rfl, rfl, -⟩, -, -⟩ := this; exact y3)
  rw [Int.toNat_natCast] at q5
  obtain ⟨oc, hoc⟩ := ex (opC E.C bk)
  rw [hoc] at dc q5
  rw [hnC.out] at q4
  replace hf := hidden hf
  replace hoc := hidden hoc
  cases lp
  ·rw [if_neg (by decide)] at hle
   have hj0 : 0 < j := by
    rcases Nat.eq_zero_or_pos j with h0 | h0
    ·rw [h0] at hle; cases hle
    ·exact h0
   have hoc2 : (oc == 29) = false := by
    have := of_decide_eq_false q5.symm
    simpa using this
   have hoc3 : ¬ oc = 29 := of_decide_eq_false q5.symm
   have hjw : IntKind.i64.wrap ((j : Int) - 1) = (j : Int) - 1 := IntWalk.i64_in _ (by omega)
   replace hle := hidden hle
   clear db b9 q1 q2 q3 q5
   go_wp2_with fail
   refine wp_region_D (S := fun w' => w'.cell? ⟨q, 2, none⟩ = some (.slice (some ⟨bC, oC, none⟩) nC cC) ∧ w'.cell? ⟨q, 11, none⟩ = some (.slice (some ⟨g, 0, none⟩) n cv) ∧ w'.cell? ⟨g, j * 3, none⟩ = some (.int .i64 (bk : Int)) ∧ w'.cell? ⟨bC, oC + bk * 2, none⟩ = some (.int .i64 oc)) (D := []) (by kernel_rfl) ⟨b2, b11, da, dc⟩ (fun HS => ?_)
   refine tk 0 [] (.pointer (some ⟨q, 0, none⟩)) HS ?_; try simp only [sx]
   refine tk 1 [] (.pointer (some ⟨q, 0, none⟩)) HS ?_; try simp only [sx]
   refine tk 2 [] (.pointer (some ⟨q, 0, none⟩)) HS ?_; try simp only [sx]
   refine tk 3 [] (.pointer (some ⟨q, 2, none⟩)) HS ?_; try simp only [sx]
   refine tk 4 [] (.slice (some ⟨bC, oC, none⟩) nC cC) HS ?_; try simp only [sx]
   refine tk 5 [] (.pointer (some ⟨q, 0, none⟩)) HS ?_; try simp only [sx]
   refine tk 6 [] (.pointer (some ⟨q, 0, none⟩)) HS ?_; try simp only [sx]
   refine tk 7 [] (.pointer (some ⟨q, 11, none⟩)) HS ?_; try simp only [sx]
   refine tk 8 [] (.slice (some ⟨g, 0, none⟩) n cv) HS ?_; try simp only [sx]
   refine tk 9 [] (.int .i64 (j : Int)) HS ?_; try simp only [sx]
   refine tk 10 [] (.pointer (some ⟨g, j * 3, none⟩)) HS ?_; try simp only [sx]
   refine tk 11 [] (.pointer (some ⟨g, j * 3, none⟩)) HS ?_; try simp only [sx]
   refine tk 12 [] (.int .i64 (bk : Int)) HS ?_; try simp only [sx]
   refine tk 13 [] (.pointer (some ⟨bC, oC + bk * 2, none⟩)) HS ?_; try simp only [sx]
   refine tk 14 [] (.pointer (some ⟨bC, oC + bk * 2, none⟩)) HS ?_; try simp only [sx]
   refine tk 15 [] (.int .i64 oc) HS ?_; try simp only [sx]
   refine tk 16 [] (.bool true) HS ?_; try simp only [sx]
   refine wpAnyD_done (by kernel_rfl) ?_ _
   show _
   go_wp2_with fail
   go_roundw
   case rel => exact ⟨j - 1, by omega, by rw [show ((j - 1 : Nat) : Int) = (j : Int) - 1 by omega], hidden (by rw [show j - 1 + 1 = j by omega]; exact hle.out), hidden (hXr.out.drew)⟩
   case measure => simp [intOf]; omega
  ·rw [if_pos rfl] at hle
   obtain rfl : j = k0 := Option.some.inj hle
   obtain rfl : oc = 29 := of_decide_eq_true q5.symm
   unfold leaveF at hR
   rw [hn.out, hll0.out] at hR
   simp only at hR
   rw [hf.out, hnse.out] at hR
   simp only at hR
   replace hle := hidden hle
   clear q5 q3
   by_cases heq : (ns : Int) = bs
   ·rw [if_neg (by omega)] at hR
    have heqb : ((ns : Int) == bs) = true := by simpa using heq
    by_cases hy0 : y = 0
    ·rw [if_pos hy0] at hR
     subst hy0
     replace hR := hidden hR
     clear q1 q2
     go_wp2_with fail
     refine wp_region_D (S := fun w' => w'.cell? ⟨q, 2, none⟩ = some (.slice (some ⟨bC, oC, none⟩) nC cC) ∧ w'.cell? ⟨q, 11, none⟩ = some (.slice (some ⟨g, 0, none⟩) n cv) ∧ w'.cell? ⟨g, j * 3, none⟩ = some (.int .i64 (bk : Int)) ∧ w'.cell? ⟨bC, oC + bk * 2, none⟩ = some (.int .i64 29)) (D := []) (by kernel_rfl) ⟨b2, b11, da, dc⟩ (fun HS => ?_)
     refine tk 0 [] (.pointer (some ⟨q, 0, none⟩)) HS ?_; try simp only [sx]
     refine tk 1 [] (.pointer (some ⟨q, 0, none⟩)) HS ?_; try simp only [sx]
     refine tk 2 [] (.pointer (some ⟨q, 0, none⟩)) HS ?_; try simp only [sx]
     refine tk 3 [] (.pointer (some ⟨q, 2, none⟩)) HS ?_; try simp only [sx]
     refine tk 4 [] (.slice (some ⟨bC, oC, none⟩) nC cC) HS ?_; try simp only [sx]
     refine tk 5 [] (.pointer (some ⟨q, 0, none⟩)) HS ?_; try simp only [sx]
     refine tk 6 [] (.pointer (some ⟨q, 0, none⟩)) HS ?_; try simp only [sx]
     refine tk 7 [] (.pointer (some ⟨q, 11, none⟩)) HS ?_; try simp only [sx]
     refine tk 8 [] (.slice (some ⟨g, 0, none⟩) n cv) HS ?_; try simp only [sx]
     refine tk 9 [] (.int .i64 (j : Int)) HS ?_; try simp only [sx]
     refine tk 10 [] (.pointer (some ⟨g, j * 3, none⟩)) HS ?_; try simp only [sx]
     refine tk 11 [] (.pointer (some ⟨g, j * 3, none⟩)) HS ?_; try simp only [sx]
     refine tk 12 [] (.int .i64 (bk : Int)) HS ?_; try simp only [sx]
     refine tk 13 [] (.pointer (some ⟨bC, oC + bk * 2, none⟩)) HS ?_; try simp only [sx]
     refine tk 14 [] (.pointer (some ⟨bC, oC + bk * 2, none⟩)) HS ?_; try simp only [sx]
     refine tk 15 [] (.int .i64 29) HS ?_; try simp only [sx]
     refine tk 16 [] (.bool false) HS ?_; try simp only [sx]
     refine wpAnyD_done (by kernel_rfl) ?_ _
     show _
     have b9' := (Ext.refl wr).drew.cell b9
     have b11' := (Ext.refl wr).drew.cell b11
     have db' := (Ext.refl wr).drew.cell db
     go_wp2_with fail
     refine wp_region_D (S := fun w' => w'.cell? ⟨q, 9, none⟩ = some (.slice as' ns cs') ∧ w'.cell? ⟨q, 11, none⟩ = some (.slice (some ⟨g, 0, none⟩) n cv) ∧ w'.cell? ⟨g, j * 3 + 1, none⟩ = some (.int .i64 bs)) (D := []) (by kernel_rfl) ⟨b9', b11', db'⟩ (fun HS => ?_)
     refine tk 0 [] (.pointer (some ⟨q, 0, none⟩)) HS ?_; try simp only [sx]
     refine tk 1 [] (.pointer (some ⟨q, 0, none⟩)) HS ?_; try simp only [sx]
     refine tk 2 [] (.pointer (some ⟨q, 9, none⟩)) HS ?_; try simp only [sx]
     refine tk 3 [] (.slice as' ns cs') HS ?_; try simp only [sx]
     refine tk 4 [] (.int .i64 (ns : Int)) HS ?_; try simp only [sx]
     refine tk 5 [] (.pointer (some ⟨q, 0, none⟩)) HS ?_; try simp only [sx]
     refine tk 6 [] (.pointer (some ⟨q, 0, none⟩)) HS ?_; try simp only [sx]
     refine tk 7 [] (.pointer (some ⟨q, 11, none⟩)) HS ?_; try simp only [sx]
     refine tk 8 [] (.slice (some ⟨g, 0, none⟩) n cv) HS ?_; try simp only [sx]
     refine tk 9 [] (.int .i64 (j : Int)) HS ?_; try simp only [sx]
     refine tk 10 [] (.pointer (some ⟨g, j * 3, none⟩)) HS ?_; try simp only [sx]
     refine tk 11 [] (.pointer (some ⟨g, j * 3 + 1, none⟩)) HS ?_; try simp only [sx]
     refine tk 12 [] (.int .i64 bs) HS ?_; try simp only [sx]
     refine tk 13 [] (.bool false) HS ?_; try simp only [sx]
     refine wpAnyD_done (by kernel_rfl) ?_ _
     show _
     have e1' := hXr.out.drew.drew.cell e1
     go_wp2_with fail
     go_ret
     show RP w B q V X E R _ _
     rw [← hR.out]
     exact ⟨rfl, V, hMI.out.ext hXr.out.drew.drew, Chg.of_ext _ (XWI.out.trans hXr.out.drew.drew), ToV.refl _ _ _⟩
    ·rw [if_neg hy0] at hR
     have hyd : (y == 0) = false := by simpa using hy0
     cases ht : toF E s.pc with
     | none => rw [ht] at hR; exact absurd hR.symm hns.out
     | some t =>
      rw [ht] at hR
      simp only at hR
      obtain ⟨hto2, htl⟩ := htt.out t ht
      subst hto2
      replace hR := hidden hR
      replace ht := hidden ht
      clear q1 q2 hy0 htl
      go_wp2_with fail
      refine wp_region_D (S := fun w' => w'.cell? ⟨q, 2, none⟩ = some (.slice (some ⟨bC, oC, none⟩) nC cC) ∧ w'.cell? ⟨q, 11, none⟩ = some (.slice (some ⟨g, 0, none⟩) n cv) ∧ w'.cell? ⟨g, j * 3, none⟩ = some (.int .i64 (bk : Int)) ∧ w'.cell? ⟨bC, oC + bk * 2, none⟩ = some (.int .i64 29)) (D := []) (by kernel_rfl) ⟨b2, b11, da, dc⟩ (fun HS => ?_)
      refine tk 0 [] (.pointer (some ⟨q, 0, none⟩)) HS ?_; try simp only [sx]
      refine tk 1 [] (.pointer (some ⟨q, 0, none⟩)) HS ?_; try simp only [sx]
      refine tk 2 [] (.pointer (some ⟨q, 0, none⟩)) HS ?_; try simp only [sx]
      refine tk 3 [] (.pointer (some ⟨q, 2, none⟩)) HS ?_; try simp only [sx]
      refine tk 4 [] (.slice (some ⟨bC, oC, none⟩) nC cC) HS ?_; try simp only [sx]
      refine tk 5 [] (.pointer (some ⟨q, 0, none⟩)) HS ?_; try simp only [sx]
      refine tk 6 [] (.pointer (some ⟨q, 0, none⟩)) HS ?_; try simp only [sx]
      refine tk 7 [] (.pointer (some ⟨q, 11, none⟩)) HS ?_; try simp only [sx]
      refine tk 8 [] (.slice (some ⟨g, 0, none⟩) n cv) HS ?_; try simp only [sx]
      refine tk 9 [] (.int .i64 (j : Int)) HS ?_; try simp only [sx]
      refine tk 10 [] (.pointer (some ⟨g, j * 3, none⟩)) HS ?_; try simp only [sx]
      refine tk 11 [] (.pointer (some ⟨g, j * 3, none⟩)) HS ?_; try simp only [sx]
      refine tk 12 [] (.int .i64 (bk : Int)) HS ?_; try simp only [sx]
      refine tk 13 [] (.pointer (some ⟨bC, oC + bk * 2, none⟩)) HS ?_; try simp only [sx]
      refine tk 14 [] (.pointer (some ⟨bC, oC + bk * 2, none⟩)) HS ?_; try simp only [sx]
      refine tk 15 [] (.int .i64 29) HS ?_; try simp only [sx]
      refine tk 16 [] (.bool false) HS ?_; try simp only [sx]
      refine wpAnyD_done (by kernel_rfl) ?_ _
      show _
      have b9' := (Ext.refl wr).drew.cell b9
      have b11' := (Ext.refl wr).drew.cell b11
      have db' := (Ext.refl wr).drew.cell db
      go_wp2_with fail
      refine wp_region_D (S := fun w' => w'.cell? ⟨q, 9, none⟩ = some (.slice as' ns cs') ∧ w'.cell? ⟨q, 11, none⟩ = some (.slice (some ⟨g, 0, none⟩) n cv) ∧ w'.cell? ⟨g, j * 3 + 1, none⟩ = some (.int .i64 bs)) (D := []) (by kernel_rfl) ⟨b9', b11', db'⟩ (fun HS => ?_)
      refine tk 0 [] (.pointer (some ⟨q, 0, none⟩)) HS ?_; try simp only [sx]
      refine tk 1 [] (.pointer (some ⟨q, 0, none⟩)) HS ?_; try simp only [sx]
      refine tk 2 [] (.pointer (some ⟨q, 9, none⟩)) HS ?_; try simp only [sx]
      refine tk 3 [] (.slice as' ns cs') HS ?_; try simp only [sx]
      refine tk 4 [] (.int .i64 (ns : Int)) HS ?_; try simp only [sx]
      refine tk 5 [] (.pointer (some ⟨q, 0, none⟩)) HS ?_; try simp only [sx]
      refine tk 6 [] (.pointer (some ⟨q, 0, none⟩)) HS ?_; try simp only [sx]
      refine tk 7 [] (.pointer (some ⟨q, 11, none⟩)) HS ?_; try simp only [sx]
      refine tk 8 [] (.slice (some ⟨g, 0, none⟩) n cv) HS ?_; try simp only [sx]
      refine tk 9 [] (.int .i64 (j : Int)) HS ?_; try simp only [sx]
      refine tk 10 [] (.pointer (some ⟨g, j * 3, none⟩)) HS ?_; try simp only [sx]
      refine tk 11 [] (.pointer (some ⟨g, j * 3 + 1, none⟩)) HS ?_; try simp only [sx]
      refine tk 12 [] (.int .i64 bs) HS ?_; try simp only [sx]
      refine tk 13 [] (.bool false) HS ?_; try simp only [sx]
      refine wpAnyD_done (by kernel_rfl) ?_ _
      show _
      have e1' := hXr.out.drew.drew.cell e1
      have c11' := hXr.out.drew.drew.cell d11
      have XD := XWI.out.trans hXr.out.drew.drew
      have hMD := hMI.out.ext hXr.out.drew.drew
      have hcj := hcut.out j (by omega)
      go_upto_region 25 with fail
      obtain ⟨U, hU⟩ := ex wr.drew.drew
      rw [hU] at c11' XD hMD e1' ⊢
      have hRdj := hidden (Rd.ext (hRd.out j (by omega)) XD)
      have hMDI := hidden hMD
      have XDI := hidden XD
      replace hU := hidden hU
      clear hMD XD
      have X1 := hidden ((Ext.refl U).alloc (.cells #[] 145))
      have hO0 := hidden (own_zero U 145 3)
      have e1c := X1.out.cell c11'
      go_upto_region 26 with (at_builtin; refine wpList_append_rd (by rfl) _ _ 87 (by rfl) U.heap.size 145 i0 (.agg #[.int .i64 0, .int .i64 0, .int .i64 0]) 3 24 Tryz.underlying87 hia.out hz0 hz1 hz2 rfl (by decide) (.slice (some ⟨U.heap.size, 0, none⟩) 0 0) 0 [] (by rfl) hO0.out (some ⟨g, 0, none⟩) j cv ((s.fr.take j).flatMap fcR) (by rfl) (Rd.ext hRdj.out X1.out) (fcR_one _) (by unfold maxLen; omega) (by omega) (by simp) ?_; intro v'' w4 hown4 hgrow4 hat4; rw [Nat.zero_add, List.nil_append] at hown4; obtain ⟨a4, c4, rfl, -⟩ := own_shape hown4; have hX4 := hidden ((Chg.of_ext [] X1.out).grown hgrow4 (fun k hk => Or.inr (own_lt hO0.out hk).1)).ext; have hOw4 := hidden hown4; have e4 := hX4.out.cell c11'; have f4 := (hMDI.out.blk.ext hX4.out).frozen 11; clear hown4 hgrow4 hat4)
      obtain ⟨m1, m2, m3⟩ := hMDI.out.newRow (i := 3) (j := 11) (r' := ⟨145, 3, .slice a4 j c4, (s.fr.take j).length, (s.fr.take j).flatMap fcR⟩) (V' := { V with fr := .slice a4 j c4 }) (s' := { s with fr := s.fr.take j }) rfl hX4.out (by unfold Row.own; simp only; rw [show (s.fr.take j).length = j by rw [List.length_take, hn.out]; omega]; exact own_mono hOw4.out (Nat.le_trans hB XDI.out.size)) (fun x hx => (own_lt hOw4.out hx).1) rfl hMI.out.al rfl
      simp only at m1 m2
      obtain ⟨W4, hW4⟩ := ex (w4.setCell ⟨q, 11, none⟩ (.slice a4 j c4))
      rw [hW4] at m1 m2 ⊢
      have hC := hidden ((Chg.of_ext _ XDI.out).trans m2 (fun x hx => Or.inl hx))
      have hT := hidden (show ToV w.heap.size q V _ from fun x hx => (m3 x hx).imp id (fun h => Nat.le_trans XDI.out.size h))
      have k14 := m1.cell 14 (.int .i64 (p : Int)) (by show some (Value.int .i64 s.pc) = _; rw [hppI.out])
      have k14f := m1.blk.frozen 14
      obtain ⟨p1, p2⟩ := m1.cellq 14 (.int .i64 (t : Int)) (s' := { s with fr := s.fr.take j, pc := t }) rfl rfl rfl
      have p1I := hidden p1
      have p2I := hidden p2
      replace hW4 := hidden hW4
      clear m1 m2 m3 p1 p2 e4 f4 e1c
      go_wp2_with fail
      go_ret
      show RP w B q V X E R _ _
      rw [← hR.out]
      exact ⟨rfl, _, p1I.out, hC.out.next hT.out p2I.out, hT.out⟩
   ·rw [if_pos heq] at hR
    have heqb : ((ns : Int) == bs) = false := by simpa using heq
    replace hR := hidden hR
    clear q1 q2
    go_wp2_with fail
    refine wp_region_D (S := fun w' => w'.cell? ⟨q, 2, none⟩ = some (.slice (some ⟨bC, oC, none⟩) nC cC) ∧ w'.cell? ⟨q, 11, none⟩ = some (.slice (some ⟨g, 0, none⟩) n cv) ∧ w'.cell? ⟨g, j * 3, none⟩ = some (.int .i64 (bk : Int)) ∧ w'.cell? ⟨bC, oC + bk * 2, none⟩ = some (.int .i64 29)) (D := []) (by kernel_rfl) ⟨b2, b11, da, dc⟩ (fun HS => ?_)
    refine tk 0 [] (.pointer (some ⟨q, 0, none⟩)) HS ?_; try simp only [sx]
    refine tk 1 [] (.pointer (some ⟨q, 0, none⟩)) HS ?_; try simp only [sx]
    refine tk 2 [] (.pointer (some ⟨q, 0, none⟩)) HS ?_; try simp only [sx]
    refine tk 3 [] (.pointer (some ⟨q, 2, none⟩)) HS ?_; try simp only [sx]
    refine tk 4 [] (.slice (some ⟨bC, oC, none⟩) nC cC) HS ?_; try simp only [sx]
    refine tk 5 [] (.pointer (some ⟨q, 0, none⟩)) HS ?_; try simp only [sx]
    refine tk 6 [] (.pointer (some ⟨q, 0, none⟩)) HS ?_; try simp only [sx]
    refine tk 7 [] (.pointer (some ⟨q, 11, none⟩)) HS ?_; try simp only [sx]
    refine tk 8 [] (.slice (some ⟨g, 0, none⟩) n cv) HS ?_; try simp only [sx]
    refine tk 9 [] (.int .i64 (j : Int)) HS ?_; try simp only [sx]
    refine tk 10 [] (.pointer (some ⟨g, j * 3, none⟩)) HS ?_; try simp only [sx]
    refine tk 11 [] (.pointer (some ⟨g, j * 3, none⟩)) HS ?_; try simp only [sx]
    refine tk 12 [] (.int .i64 (bk : Int)) HS ?_; try simp only [sx]
    refine tk 13 [] (.pointer (some ⟨bC, oC + bk * 2, none⟩)) HS ?_; try simp only [sx]
    refine tk 14 [] (.pointer (some ⟨bC, oC + bk * 2, none⟩)) HS ?_; try simp only [sx]
    refine tk 15 [] (.int .i64 29) HS ?_; try simp only [sx]
    refine tk 16 [] (.bool false) HS ?_; try simp only [sx]
    refine wpAnyD_done (by kernel_rfl) ?_ _
    show _
    have b9' := (Ext.refl wr).drew.cell b9
    have b11' := (Ext.refl wr).drew.cell b11
    have db' := (Ext.refl wr).drew.cell db
    go_wp2_with fail
    refine wp_region_D (S := fun w' => w'.cell? ⟨q, 9, none⟩ = some (.slice as' ns cs') ∧ w'.cell? ⟨q, 11, none⟩ = some (.slice (some ⟨g, 0, none⟩) n cv) ∧ w'.cell? ⟨g, j * 3 + 1, none⟩ = some (.int .i64 bs)) (D := []) (by kernel_rfl) ⟨b9', b11', db'⟩ (fun HS => ?_)
    refine tk 0 [] (.pointer (some ⟨q, 0, none⟩)) HS ?_; try simp only [sx]
    refine tk 1 [] (.pointer (some ⟨q, 0, none⟩)) HS ?_; try simp only [sx]
    refine tk 2 [] (.pointer (some ⟨q, 9, none⟩)) HS ?_; try simp only [sx]
    refine tk 3 [] (.slice as' ns cs') HS ?_; try simp only [sx]
    refine tk 4 [] (.int .i64 (ns : Int)) HS ?_; try simp only [sx]
    refine tk 5 [] (.pointer (some ⟨q, 0, none⟩)) HS ?_; try simp only [sx]
    refine tk 6 [] (.pointer (some ⟨q, 0, none⟩)) HS ?_; try simp only [sx]
    refine tk 7 [] (.pointer (some ⟨q, 11, none⟩)) HS ?_; try simp only [sx]
    refine tk 8 [] (.slice (some ⟨g, 0, none⟩) n cv) HS ?_; try simp only [sx]
    refine tk 9 [] (.int .i64 (j : Int)) HS ?_; try simp only [sx]
    refine tk 10 [] (.pointer (some ⟨g, j * 3, none⟩)) HS ?_; try simp only [sx]
    refine tk 11 [] (.pointer (some ⟨g, j * 3 + 1, none⟩)) HS ?_; try simp only [sx]
    refine tk 12 [] (.int .i64 bs) HS ?_; try simp only [sx]
    refine tk 13 [] (.bool true) HS ?_; try simp only [sx]
    refine wpAnyD_done (by kernel_rfl) ?_ _
    show _
    go_wp2_with fail
    go_ret
    show RP w B q V X E R _ _
    rw [← hR.out]
    exact ⟨rfl, Chg.of_ext _ (XWI.out.trans hXr.out.drew.drew)⟩
theorem rblock_any (op : Int) (ho : op = 27 ∨ op = 29 ∨ op = 30) (arg : Int) (l : List Vl) (hll : l.length = 1) (hlu : ∀ v ∈ l, U32 v.1) (w : World) (B q : Nat) (V : Vs) (X : EV) (E : Env) (s : MS) (h : MSt LR w B q V X E s) (hB : B ≤ w.heap.size) (hs : OkS E s) (hE : OkE E) (hp0 : 0 ≤ s.pc) (hp1 : s.pc < E.C.length) (hop : opC E.C s.pc.toNat = op) (v : Value) (hr : Rd w 2 v l.length (l.flatMap vcR)) (hns : blkR E op arg l s ≠ .stuck) :
  Calls Tryz.prog 57 #[.pointer (some ⟨q, 0, none⟩), .int .i64 op, v] w (RP w B q V X E (blkR E op arg l s)) := by
 obtain ⟨⟨y, t0⟩, rfl⟩ := len1 hll
 have hyu : U32 y := hlu (y, t0) (by simp)
 rcases ho with rfl | rfl | rfl
 ·exact rblk27 w B q V X E s h hB hs hE hp0 hp1 y t0 v hr hyu hns
 ·unfold blkR at hns ⊢
  rw [if_neg (by decide), exe29] at hns ⊢
  exact rblk29 w B q V X E s h hB hs hE hp0 hp1 y t0 v hr hyu hop hns
 ·unfold blkR at hns ⊢
  rw [if_neg (by decide), exe30] at hns ⊢
  exact rblk30 w B q V X E s h hB hs hE hp0 hp1 y t0 v hr hyu hns
theorem set2_ext {w w' : World} {z : Nat} (h : Ext w w') (hz : w.heap.size ≤ z) (a' b' : Value) : Ext w ((w'.setCell ⟨z, 0, none⟩ a').setCell ⟨z, 1, none⟩ b') :=
 ((Chg.of_ext [] h).trans (((Chg.refl [z] w').setCell (p := ⟨z, 0, none⟩) (Or.inl (by simp)) a').setCell (p := ⟨z, 1, none⟩) (Or.inl (by simp)) b') (fun x hx => Or.inr (by rw [List.mem_singleton.1 hx]; exact hz))).ext
theorem pop_ne0 {tys : List UInt8} {st : List Vl} {b : Int} {e : Int} (h : popF tys st b = .error e) : e ≠ 0 := by
 unfold popF at h
 split at h
 ·cases h; decide
 ·split at h
  ·cases h
  ·cases h; decide
def PlO (s : MS) (r : Except Int (List Vl × MS)) : Prop := ∀ l' s', r = .ok (l', s') → (s' = s ∧ l'.length ≤ 2) ∨ (l' = [] ∧ s'.st = s.st)
theorem PlO.err {s : MS} (e : Int) : PlO s (.error e) := fun l' s' h => by cases h
theorem PlO.same {s : MS} (l : List Vl) (hl : l.length ≤ 2) : PlO s (.ok (l, s)) := fun l' s' h => by cases h; exact Or.inl ⟨rfl, hl⟩
theorem PlO.none {s s2 : MS} (hl : s2.st = s.st) : PlO s (.ok ([], s2)) := fun l' s' h => by cases h; exact Or.inr ⟨rfl, hl⟩
theorem pl_out {E : Env} {op arg : Int} {l l' : List Vl} {s s' : MS} (h : plF E op arg l s = .ok (l', s')) : (s' = s ∧ l'.length ≤ 2) ∨ (l' = [] ∧ s'.st = s.st) := by
 have : PlO s (plF E op arg l s) := by
  unfold plF
  repeat' (first | exact PlO.err _ | exact PlO.same _ (Nat.le_refl 2) | exact PlO.same _ (show 1 ≤ 2 by decide) | exact PlO.none rfl | refine ite_both (PlO s) (fun hc => ?_) (fun hc => ?_))
 exact this l' s' h
theorem pl_ok {E : Env} {op arg : Int} {l l' : List Vl} {s s' : MS} (h : plF E op arg l s = .ok (l', s')) (ho : (0 ≤ op ∧ op ≤ 26) ∨ (32 ≤ op ∧ op ≤ 35)) (hs : OkS E s) (h32 : s.st.length ≤ 32) (hk : Keeps E (exeF E op arg l s)) : l'.length ≤ 2 ∧ OkS E s' := by
 rcases pl_out h with ⟨rfl, h2⟩ | ⟨rfl, h2⟩
 ·exact ⟨h2, hs⟩
 ·refine ⟨by simp, ?_⟩
  have h3 : exeF E op arg l s = .go s' := by rw [exe_pl ho h32, h]; exact push_nil (E := E) (by rw [h2]; exact h32)
  exact (hk s' h3).1
theorem rexecute_any (w : World) (B q : Nat) (V : Vs) (X : EV) (E : Env) (s : MS) (h : MSt LR w B q V X E s) (hB : B ≤ w.heap.size) (hs : OkS E s) (hE : OkE E) (hp0 : 0 ≤ s.pc) (hp1 : s.pc < E.C.length) (hns : execR E s ≠ .stuck) :
  Calls Tryz.prog 42 #[.pointer (some ⟨q, 0, none⟩)] w (RP w B q V X E (execR E s)) := by
 obtain ⟨p, hpp⟩ := Int.eq_ofNat_of_zero_le hp0
 have hpC : p < E.C.length := by omega
 obtain ⟨bC, oC, cC, hvC, hcC, -, -, hca, hcb⟩ := h.env.code_at (k := p) hpC
 obtain ⟨ho0, ho1, hau, hctx⟩ := hE.okc _ (getD_mem (l := E.C) (i := p) (d := (0, 0)) hpC)
 have hops : opS E s = opC E.C p := by unfold opS opC; rw [hpp, Int.toNat_natCast]
 have hargs : argS E s = (E.C.getD p (0, 0)).2 := by unfold argS; rw [hpp, Int.toNat_natCast]
 have hopC : opC E.C s.pc.toNat = opC E.C p := by rw [hpp, Int.toNat_natCast]
 change 0 ≤ opC E.C p at ho0
 change opC E.C p < 36 at ho1
 change opC E.C p = 35 → _ at hctx
 obtain ⟨op, hop⟩ := ex (opC E.C p)
 obtain ⟨arg, harg⟩ := ex ((E.C.getD p (0, 0)).2)
 rw [hop] at hca hops hopC ho0 ho1 hctx
 rw [harg] at hcb hargs hau hctx
 have ha0 := hau.1
 have ha1 : arg ≤ 4294967295 := by have := hau.2; omega
 obtain ⟨R, hR⟩ := ex (execR E s)
 rw [hR] at hns ⊢
 have c2 := h.cell 2 _ rfl
 change w.cell? ⟨q, 2, none⟩ = some X.c at c2
 rw [hvC] at c2
 have c14 := h.cell 14 (.int .i64 (p : Int)) (by show some (Value.int .i64 s.pc) = _; rw [hpp])
 obtain ⟨nC, hnC⟩ := ex E.C.length
 rw [hnC] at c2 hcC hpC
 have hpi : (p : Int) < (nC : Int) := by omega
 have hzV : w.heap.size ∉ SV q V := fun hm => by have := (h.lt hm).2; omega
 have hI := hidden h
 have hsI := hidden hs
 have hEI := hidden hE
 have hp0I := hidden hp0
 have hp1I := hidden hp1
 have hopsI := hidden hops
 have hargsI := hidden hargs
 have hopCI := hidden hopC
 have hctxI := hidden hctx
 have hauI := hidden hau
 have hBI := hidden hB
 replace hop := hidden hop
 replace harg := hidden harg
 replace hnC := hidden hnC
 replace hR := hidden hR
 replace hns := hidden hns
 have hzVI := hidden hzV
 clear h hs hE hvC hpp hp0 hp1 hops hargs hopC hctx hau hzV hB
 go_enter Tryz.func42, Tryz.ntmps42
 go_upto_region 1 with fail
 refine wp_region_D (S := fun w' => w'.cell? ⟨q, 2, none⟩ = some (.slice (some ⟨bC, oC, none⟩) nC cC) ∧ w'.cell? ⟨q, 14, none⟩ = some (.int .i64 (p : Int)) ∧ w'.cell? ⟨bC, oC + p * 2, none⟩ = some (.int .i64 op) ∧ w'.cell? ⟨bC, oC + p * 2 + 1, none⟩ = some (.int .u32 arg)) (D := [12]) (by kernel_rfl) ⟨c2, c14, hca, hcb⟩ (fun HS => ?_)
 refine tk 0 [1, 2, 3, 4, 9, 10, 12] (.pointer (some ⟨q, 0, none⟩)) HS ?_; try simp only [sx]
 refine tk 1 [2, 3, 4, 9, 10, 12] (.pointer (some ⟨q, 0, none⟩)) HS ?_; try simp only [sx]
 refine tk 2 [3, 4, 9, 10, 12] (.pointer (some ⟨q, 0, none⟩)) HS ?_; try simp only [sx]
 refine tk 3 [4, 9, 10, 12] (.pointer (some ⟨q, 2, none⟩)) HS ?_; try simp only [sx]
 refine tk 4 [9, 10, 12] (.slice (some ⟨bC, oC, none⟩) nC cC) HS ?_; try simp only [sx]
 refine tk 5 [6, 7, 8, 9, 10, 12] (.pointer (some ⟨q, 0, none⟩)) HS ?_; try simp only [sx]
 refine tk 6 [7, 8, 9, 10, 12] (.pointer (some ⟨q, 0, none⟩)) HS ?_; try simp only [sx]
 refine tk 7 [8, 9, 10, 12] (.pointer (some ⟨q, 14, none⟩)) HS ?_; try simp only [sx]
 refine tk 8 [9, 10, 12] (.int .i64 (p : Int)) HS ?_; try simp only [sx]
 refine tk 9 [10, 12] (.pointer (some ⟨bC, oC + p * 2, none⟩)) HS ?_; try simp only [sx]
 refine tk 10 [12] (.agg #[.int .i64 op, .int .u32 arg]) HS ?_; try simp only [sx]
 have BZ := blk_at1 w.drew [.int .i64 0, .int .u32 0] 63 w.heap.size rfl
 have XZ := (Ext.refl w).drew.alloc (.cells #[.int .i64 0, .int .u32 0] 63)
 have XC := (Ext.refl w.drew).alloc (.cells #[.int .i64 0, .int .u32 0] 63)
 have HS2 := And.intro (XC.cell (HS.1)) (And.intro (XC.cell (HS.2.1)) (And.intro (XC.cell (HS.2.2.1)) (XC.cell (HS.2.2.2))))
 refine valueD 11 (.pointer (some ⟨w.heap.size, 0, none⟩)) rfl rfl (by kernel_rfl) (by rfl) (w' := w.drew.alloc (.cells #[.int .i64 0, .int .u32 0] 63)) (by go_simp) (fun _ => HS2) ?_; try simp only [sx]
 obtain ⟨z0, z1⟩ := BZ.c2
 obtain ⟨y0, y1⟩ := BZ.fz2
 refine storeD 12 rfl rfl (by kernel_rfl) (by rfl) (w' := (((w.drew.alloc (.cells #[.int .i64 0, .int .u32 0] 63)).setCell ⟨w.heap.size, 0, none⟩ (.int .i64 op)).setCell ⟨w.heap.size, 1, none⟩ (.int .u32 arg))) (by go_simp) (fun h => absurd (by decide) h) ?_
 refine wpAnyD_done (by kernel_rfl) ?_ _
 show _
 have B2 : Blk _ w.heap.size 63 [.int .i64 op, .int .u32 arg] := (BZ.set 0 (.int .i64 op)).set 1 (.int .u32 arg)
 have X2 := set2_ext XZ (Nat.le_refl _) (.int .i64 op) (.int .u32 arg)
 have hlt : w.heap.size < (((w.drew.alloc (.cells #[.int .i64 0, .int .u32 0] 63)).setCell ⟨w.heap.size, 0, none⟩ (.int .i64 op)).setCell ⟨w.heap.size, 1, none⟩ (.int .u32 arg)).heap.size := B2.lt
 obtain ⟨W2, hW2⟩ := ex ((((w.drew.alloc (.cells #[.int .i64 0, .int .u32 0] 63)).setCell ⟨w.heap.size, 0, none⟩ (.int .i64 op)).setCell ⟨w.heap.size, 1, none⟩ (.int .u32 arg)))
 rw [show (((w.drew.alloc (.cells ([.int .i64 0, .int .u32 0] : List Value).toArray 63)).setCell ⟨w.heap.size, 0, none⟩ (.int .i64 op)).setCell ⟨w.heap.size, 1, none⟩ (.int .u32 arg)) = W2 from hW2] at B2
 rw [hW2] at X2 hlt ⊢
 clear hW2 BZ XZ XC HS2 HS z0 z1 y0 y1
 obtain ⟨z0, z1⟩ := B2.c2
 have X2I := hidden X2
 have hltI := hidden hlt
 have hMI2 := hidden (hI.out.ext X2)
 have hB2 := hidden (Nat.le_trans hBI.out X2.size)
 clear X2 B2 hlt
 obtain ⟨z, hz⟩ := ex w.heap.size
 rw [hz] at z0 z1 hltI hzVI ⊢
 replace hz := hidden hz
 clear c2 c14 hca hcb
 by_cases hOp : op = 28 ∨ op = 31
 ·have hR1 := hR.out
  unfold execR at hR1
  rw [hopsI.out, hargsI.out, if_pos hOp] at hR1
  clear hR
  have hR := hidden hR1
  clear hR1
  rcases hOp with rfl | rfl
  ·go_wp2_with fail
   refine (rend_any 28 (by decide) W2 B q V X E s hMI2.out hB2.out hsI.out hEI.out hp0I.out hp1I.out (by rw [hR.out]; exact hns.out)).mono ?_
   intro x w5 hm5
   obtain ⟨e5, rfl⟩ := hm5.ret
   have hg5 := hidden (hm5.later (Chg.of_ext _ X2I.out) (ToV.refl _ _ _))
   rw [hR.out] at hg5
   clear hm5
   go_wp2_with fail
   go_ret
   exact hg5.out
  ·go_wp2_with fail
   refine (rend_any 31 (by decide) W2 B q V X E s hMI2.out hB2.out hsI.out hEI.out hp0I.out hp1I.out (by rw [hR.out]; exact hns.out)).mono ?_
   intro x w5 hm5
   obtain ⟨e5, rfl⟩ := hm5.ret
   have hg5 := hidden (hm5.later (Chg.of_ext _ X2I.out) (ToV.refl _ _ _))
   rw [hR.out] at hg5
   clear hm5
   go_wp2_with fail
   go_ret
   exact hg5.out
 ·have h28 : (op == 28) = false := by have : op ≠ 28 := fun e => hOp (Or.inl e); simpa using this
  have h31 : (op == 31) = false := by have : op ≠ 31 := fun e => hOp (Or.inr e); simpa using this
  have hOpI := hidden hOp
  clear hOp
  go_wp2_with fail
  refine (rstep_any W2 B q V X E s hMI2.out hsI.out hEI.out).mono ?_
  intro x w1 hm1
  by_cases hfu : ¬ s.steps < E.fuel
  ·have hR1 := hR.out
   unfold execR at hR1
   rw [hopsI.out, hargsI.out, if_neg hOpI.out, if_pos hfu] at hR1
   rw [show tickF E s = .err 19 by unfold tickF; rw [if_neg hfu]] at hm1
   obtain ⟨rfl, hC1⟩ := hm1
   have hC := hidden ((Chg.of_ext _ X2I.out).trans hC1 (fun x hx => Or.inl hx))
   clear hR hC1 hfu
   have hR := hidden hR1
   clear hR1
   go_wp2_with fail
   go_ret
   show RP w B q V X E R _ _
   rw [← hR.out]
   exact ⟨rfl, hC.out⟩
  ·rw [show tickF E s = .go { s with steps := s.steps + 1 } by unfold tickF; rw [if_pos (by omega)]] at hm1
   obtain ⟨rfl, V1, hM1, hC1, hT1⟩ := hm1
   have hs1 := hidden (oks_tick hEI.out hsI.out (by omega))
   have hC := hidden ((Chg.of_ext _ X2I.out).trans hC1 (fun x hx => Or.inl hx))
   have hT := hidden (show ToV w.heap.size q V V1 from fun x hx => (hT1 x hx).imp id (fun h => Nat.le_trans X2I.out.size h))
   have hzV1 : z ∉ SV q V1 := fun hm => by
    rcases hT1 z hm with h1 | h1
    ·exact hzVI.out h1
    ·exact absurd h1 (Nat.not_le_of_lt hltI.out)
   have y0 := hC1.cell hzVI.out z0
   have y1 := hC1.cell hzVI.out z1
   have hB1 := hidden (Nat.le_trans hB2.out hC1.size)
   have hMI1 := hidden hM1
   have hfuI := hidden (show s.steps < E.fuel by omega)
   have hzV1I := hidden hzV1
   clear hM1 hC1 hT1 z0 z1 hfu hzV1
   go_wp2_with fail
   refine (rexists_any op arg ha0 ha1 w1 B q V1 X E _ hMI1.out hEI.out).mono ?_
   rintro x w2 ⟨rfl, hX2⟩
   have hC2 := hidden (hC.out.trans (Chg.of_ext (SV q V) hX2) (fun x hx => Or.inl hx))
   have u0 := hX2.cell y0
   have u1 := hX2.cell y1
   have hMI2b := hidden (hMI1.out.ext hX2)
   have hB2b := hidden (Nat.le_trans hB1.out hX2.size)
   clear hX2 y0 y1 hMI2 hMI1 hC
   by_cases hx : exiF E op arg = false
   ·have hR1 := hR.out
    unfold execR at hR1
    rw [hopsI.out, hargsI.out, if_neg hOpI.out, if_neg (fun hh => hh hfuI.out), if_pos hx] at hR1
    rw [hx]
    replace hx := hidden hx
    clear hR
    have hR := hidden hR1
    clear hR1
    go_wp2_with fail
    go_ret
    show RP w B q V X E R _ _
    rw [← hR.out]
    exact ⟨rfl, hC2.out⟩
   ·have hx1 : exiF E op arg = true := by revert hx; cases exiF E op arg <;> simp
    rw [hx1]
    replace hx := hidden hx1
    clear hx1
    go_wp2_with fail
    refine (rpop_any op (pops_ok ho0 ho1).1 w2 B q V1 X E _ hMI2b.out hB2b.out hs1.out).mono ?_
    intro x w3 hm3
    change RPop w2 B q V1 X E _ (popF (opAt op).2.1.data.toList s.st (baseF s.fr)) x w3 at hm3
    cases hpo : popF (opAt op).2.1.data.toList s.st (baseF s.fr) with
    | error e =>
     have hR1 := hR.out
     unfold execR at hR1
     rw [hopsI.out, hargsI.out, if_neg hOpI.out, if_neg (fun hh => hh hfuI.out), if_neg (by rw [hx.out]; decide), hpo] at hR1
     rw [hpo] at hm3
     simp only at hR1
     obtain ⟨rfl, hC3⟩ := hm3
     have he := pop_ne0 hpo
     have he0 : (e == 0) = false := by simpa using he
     have hC3 := hidden (hC2.out.next hT.out hC3)
     clear hR he
     have hR := hidden hR1
     clear hR1
     go_wp2_with fail
     go_ret
     show RP w B q V X E R _ _
     rw [← hR.out]
     exact ⟨rfl, hC3.out⟩
    | ok lr =>
     obtain ⟨l, r⟩ := lr
     have hR1 := hR.out
     unfold execR at hR1
     rw [hopsI.out, hargsI.out, if_neg hOpI.out, if_neg (fun hh => hh hfuI.out), if_neg (by rw [hx.out]; decide), hpo] at hR1
     rw [hpo] at hm3
     simp only at hR1
     obtain ⟨v, V3, rfl, hRd3, hM3, hC3, hT3⟩ := hm3
     have hs3 : OkS E { s with st := r, steps := s.steps + 1 } := by
      have := oks_s1 (l := l) (r := r) hEI.out hsI.out (Or.inr (Or.inr hfuI.out)) hpo
      rwa [show s1F E s r = { s with st := r, steps := s.steps + 1 } by unfold s1F; rw [if_neg (by rw [hopsI.out]; exact hOpI.out)]] at this
     have hM3 : MSt LR w3 B q V3 X E { s with st := r, steps := s.steps + 1 } := hM3
     have u0 := hC3.cell hzV1I.out u0
     have u1 := hC3.cell hzV1I.out u1
     have hB3 := hidden (Nat.le_trans hB2b.out hC3.size)
     have hT3 := hidden (hT.out.trans hT3 hC2.out.size)
     have hC3 := hidden (hC2.out.next hT.out hC3)
     have hlu := hidden (fun (v : Vl) (hv : v ∈ l) => hsI.out.stv v ((pop_mem hpo).1 v hv))
     have hlen := hidden ((pop_len hpo (base_nn hsI.out)).trans (size_toList _))
     replace hM3 := hidden hM3
     replace hs3 := hidden hs3
     replace hRd3 := hidden hRd3
     replace hpo := hidden hpo
     clear hR hMI2b
     by_cases hblk : op = 27 ∨ op = 29 ∨ op = 30
     ·have hR := hidden hR1
      have hll1 := hidden (show l.length = 1 by rcases hblk with rfl | rfl | rfl <;> exact hlen.out)
      clear hR1
      rcases hblk with rfl | rfl | rfl
      ·go_wp2_with fail
       refine (rblock_any 27 (by decide) arg l hll1.out hlu.out w3 B q V3 X E _ hM3.out hB3.out hs3.out hEI.out hp0I.out hp1I.out hopCI.out v hRd3.out (by rw [hR.out]; exact hns.out)).mono ?_
       intro x w5 hm5
       obtain ⟨e5, rfl⟩ := hm5.ret
       have hg5 := hidden (hm5.later hC3.out hT3.out)
       rw [hR.out] at hg5
       clear hm5
       go_wp2_with fail
       go_ret
       exact hg5.out
      ·go_wp2_with fail
       refine (rblock_any 29 (by decide) arg l hll1.out hlu.out w3 B q V3 X E _ hM3.out hB3.out hs3.out hEI.out hp0I.out hp1I.out hopCI.out v hRd3.out (by rw [hR.out]; exact hns.out)).mono ?_
       intro x w5 hm5
       obtain ⟨e5, rfl⟩ := hm5.ret
       have hg5 := hidden (hm5.later hC3.out hT3.out)
       rw [hR.out] at hg5
       clear hm5
       go_wp2_with fail
       go_ret
       exact hg5.out
      ·go_wp2_with fail
       refine (rblock_any 30 (by decide) arg l hll1.out hlu.out w3 B q V3 X E _ hM3.out hB3.out hs3.out hEI.out hp0I.out hp1I.out hopCI.out v hRd3.out (by rw [hR.out]; exact hns.out)).mono ?_
       intro x w5 hm5
       obtain ⟨e5, rfl⟩ := hm5.ret
       have hg5 := hidden (hm5.later hC3.out hT3.out)
       rw [hR.out] at hg5
       clear hm5
       go_wp2_with fail
       go_ret
       exact hg5.out
     ·have hpl0 : (0 ≤ op ∧ op ≤ 26) ∨ (32 ≤ op ∧ op ≤ 35) := by have := hOpI.out; omega
      have h27 : (op == 27) = false := by have : op ≠ 27 := fun e => hblk (Or.inl e); simpa using this
      have h29 : (op == 29) = false := by have : op ≠ 29 := fun e => hblk (Or.inr (Or.inl e)); simpa using this
      have h30 : (op == 30) = false := by have : op ≠ 30 := fun e => hblk (Or.inr (Or.inr e)); simpa using this
      have hl32 := hs3.out.st
      unfold blkR at hR1
      rw [if_neg (fun e => hblk (Or.inl e)), exe_pl hpl0 hl32] at hR1
      have hkeep := hidden (keeps_exe hEI.out hs3.out hp0I.out hp1I.out op arg l hlu.out hopsI.out hargsI.out)
      have hpl0I := hidden hpl0
      have hl32I := hidden hl32
      have hR := hidden hR1
      clear hR1 hblk hpl0 hl32
      go_wp2_with fail
      refine (rplain_any op arg hpl0I.out hauI.out w3 B q V3 X E _ hM3.out hB3.out hs3.out hEI.out hx.out hctxI.out l v hlen.out hlu.out hRd3.out).mono ?_
      intro x w4 hm4
      cases hpl : plF E op arg l { s with st := r, steps := s.steps + 1 } with
      | error e =>
       have hR1 := hR.out
       rw [hpl] at hR1 hm4
       obtain ⟨v4, rfl, hC4⟩ := hm4
       have he := pl_err hpl
       have he0 : (e == 0) = false := by simpa using he
       have hC4 := hidden (hC3.out.next hT3.out hC4)
       clear hR he
       have hR := hidden (show Rs.err e = R from hR1)
       clear hR1
       go_wp2_with fail
       go_ret
       show RP w B q V X E R _ _
       rw [← hR.out]
       exact ⟨rfl, hC4.out⟩
      | ok ls =>
       obtain ⟨l', s'⟩ := ls
       have hR1 := hR.out
       rw [hpl] at hR1 hm4
       obtain ⟨v4, V4, rfl, hRd4, hM4, hC4, hT4⟩ := hm4
       obtain ⟨hl2, hs4⟩ := pl_ok hpl hpl0I.out hs3.out hl32I.out hkeep.out
       have hB4 := hidden (Nat.le_trans hB3.out hC4.size)
       have hT4 := hidden (hT3.out.trans hT4 hC3.out.size)
       have hC4 := hidden (hC3.out.next hT3.out hC4)
       replace hM4 := hidden hM4
       replace hRd4 := hidden hRd4
       replace hs4 := hidden hs4
       replace hl2 := hidden hl2
       clear hR
       have hR := hidden (show pushF l' s' = R from hR1)
       clear hR1
       go_wp2_with fail
       refine (rpush_any w4 B q V4 X E s' hM4.out hB4.out hs4.out l' hl2.out v4 hRd4.out).mono ?_
       intro x w5 hm5
       obtain ⟨e5, rfl⟩ := hm5.ret
       have hg5 := hidden (hm5.later hC4.out hT4.out)
       rw [hR.out] at hg5
       clear hm5
       go_wp2_with fail
       go_ret
       exact hg5.out
end Go.Proofs.YtgjjklajipekdaaGreat
