
import Derived.Test.YtgjjklajipekdaaGreatZk
namespace Go.Proofs.YtgjjklajipekdaaGreat
set_option maxHeartbeats 16000000
set_option maxRecDepth 100000
open Go.RowKit
set_option linter.unusedVariables false
set_option linter.unusedSimpArgs false
attribute [local go_sem ↓] Go.wp_at_zero Go.wp_at_succ
theorem end_err {E : Env} {op : Int} {s : MS} {f : Frm} (hl : s.fr.getLast? = some f) (hne : (s.st.length : Int) ≠ f.base) : endR E op s = .err 14 := by unfold endR; rw [hl]; simp only; rw [if_pos hne]
theorem end_28 {E : Env} {s : MS} {f : Frm} {t : Nat} (hl : s.fr.getLast? = some f) (hb : (s.st.length : Int) = f.base) (ht : toF E s.pc = some t) : endR E 28 s = .go { s with pc := t, fr := s.fr.dropLast } := by unfold endR; rw [hl]; simp only; rw [if_neg (by omega), if_pos trivial, ht]
theorem end_31 {E : Env} {s : MS} {f : Frm} (hl : s.fr.getLast? = some f) (hb : (s.st.length : Int) = f.base) : endR E 31 s = if f.loop = true ∧ 1 < f.left then tickF E { s with fr := s.fr.dropLast ++ [{ f with left := f.left - 1 }], pc := f.beg } else .go { s with fr := s.fr.dropLast } := by
 unfold endR
 rw [hl]
 simp only
 rw [if_neg (by omega), if_neg (by decide)]
 unfold endF
 rw [hl]
 simp only
 rw [if_neg (by omega)]
theorem rend_any (op : Int) (ho : op = 28 ∨ op = 31) (w : World) (B q : Nat) (V : Vs) (X : EV) (E : Env) (s : MS) (h : MSt LR w B q V X E s) (hB : B ≤ w.heap.size) (hs : OkS E s) (hE : OkE E) (hp0 : 0 ≤ s.pc) (hp1 : s.pc < E.C.length) (hns : endR E op s ≠ .stuck) :
  Calls Tryz.prog 53 #[.pointer (some ⟨q, 0, none⟩), .int .i64 op] w (RP w B q V X E (endR E op s)) := by
 cases hl : s.fr.getLast? with
 | none => exact absurd (by unfold endR; rw [hl]) hns
 | some f =>
  obtain ⟨R, hR⟩ := ex (endR E op s)
  rw [hR] at hns ⊢
  have hla := last_at hl
  have hrow := h.row 3 _ rfl
  have hrow9 := h.row 2 _ rfl
  unfold Row.own at hrow hrow9
  simp only at hrow hrow9
  have c11 := h.cell 11 _ rfl
  have c9 := h.cell 9 _ rfl
  have h8 := hs.fr
  have h32 := hs.st
  obtain ⟨a9, cc9, hv9, -⟩ := own_shape hrow9
  obtain ⟨m, hm⟩ : ∃ m, s.fr.length = m + 1 := by
   rcases hn : s.fr with _ | ⟨x, l⟩
   ·rw [hn] at hl; cases hl
   ·exact ⟨l.length, by simp⟩
  obtain ⟨a0, cv, hV0, hcv, hcv2, hg⟩ := own_shape hrow
  obtain ⟨g, rfl, -, -⟩ := hg (by omega)
  have fc := fun j u hu => own_cell (by rw [hV0] at hrow; exact hrow) ((s.fr.length - 1) * 3 + j) u (flat_at (E := fcR) (fun _ => rfl) hla (j := j) hu)
  obtain ⟨bs, bg, lf, lp⟩ := f
  have d0 := fc 0 (.int .i64 bg) rfl
  have d1 := fc 1 (.int .i64 bs) rfl
  have d2 := fc 2 (.int .i64 lf) rfl
  rw [hm, Nat.add_sub_cancel] at d0 d1 d2
  rw [Nat.add_zero] at d0
  obtain ⟨st, hst⟩ := ex s.st.length
  rw [hV0, hm] at c11
  rw [hv9, hst] at c9
  rw [hm] at h8 hcv
  rw [hst] at h32
  have hmw : IntKind.i64.wrap (((m + 1 : Nat) : Int) - 1) = (m : Int) := by rw [IntWalk.i64_in _ (by omega)]; omega
  have hmw2 : IntKind.i64.wrap (m : Int) = (m : Int) := IntWalk.i64_in _ (by omega)
  have hmm : (m : Int) < (m : Int) + 1 := by omega
  have hmm2 : ¬ (m : Int) + 1 ≤ (m : Int) := by omega
  have hI := hidden h
  have hsI := hidden hs
  have hEI := hidden hE
  have hRI := hidden hR
  have hnsI := hidden hns
  have hp0I := hidden hp0
  have hrowI := hidden hrow
  replace hm := hidden hm
  replace hst := hidden hst
  replace hV0 := hidden hV0
  have hlI := hidden hl
  clear h hs hE hrow hrow9 hv9 hla hl fc hR hns hp0 hp1
  go_enter Tryz.func53, Tryz.ntmps53
  go_upto_region 1 with fail
  refine wp_region_D (S := fun w' => w'.cell? ⟨q, 11, none⟩ = some (.slice (some ⟨g, 0, none⟩) (m + 1) cv) ∧ w'.cell? ⟨g, m * 3, none⟩ = some (.int .i64 bg) ∧ w'.cell? ⟨g, m * 3 + 1, none⟩ = some (.int .i64 bs) ∧ w'.cell? ⟨g, m * 3 + 2, none⟩ = some (.int .i64 lf)) (D := [13]) (by kernel_rfl) ⟨c11, d0, d1, d2⟩ (fun HS => ?_)
  refine tk 0 [1, 2, 3, 10, 11, 13] (.pointer (some ⟨q, 0, none⟩)) HS ?_; try simp only [sx]
  refine tk 1 [2, 3, 10, 11, 13] (.pointer (some ⟨q, 0, none⟩)) HS ?_; try simp only [sx]
  refine tk 2 [3, 10, 11, 13] (.pointer (some ⟨q, 11, none⟩)) HS ?_; try simp only [sx]
  refine tk 3 [10, 11, 13] (.slice (some ⟨g, 0, none⟩) (m + 1) cv) HS ?_; try simp only [sx]
  refine tk 4 [5, 6, 7, 8, 9, 10, 11, 13] (.pointer (some ⟨q, 0, none⟩)) HS ?_; try simp only [sx]
  refine tk 5 [6, 7, 8, 9, 10, 11, 13] (.pointer (some ⟨q, 0, none⟩)) HS ?_; try simp only [sx]
  refine tk 6 [7, 8, 9, 10, 11, 13] (.pointer (some ⟨q, 11, none⟩)) HS ?_; try simp only [sx]
  refine tk 7 [8, 9, 10, 11, 13] (.slice (some ⟨g, 0, none⟩) (m + 1) cv) HS ?_; try simp only [sx]
  refine tk 8 [9, 10, 11, 13] (.int .i64 ((m + 1 : Nat) : Int)) HS ?_; try simp only [sx]
  refine tk 9 [10, 11, 13] (.int .i64 (m : Int)) HS ?_; try simp only [sx]
  refine tk 10 [11, 13] (.pointer (some ⟨g, m * 3, none⟩)) HS ?_; try simp only [sx]
  refine tk 11 [13] (.agg #[.int .i64 bg, .int .i64 bs, .int .i64 lf]) HS ?_; try simp only [sx]
  have BZ := blk_at1 w.drew [.int .i64 0, .int .i64 0, .int .i64 0] 145 w.heap.size rfl
  have XZ := (Ext.refl w).drew.alloc (.cells #[.int .i64 0, .int .i64 0, .int .i64 0] 145)
  have XC := (Ext.refl w.drew).alloc (.cells #[.int .i64 0, .int .i64 0, .int .i64 0] 145)
  have HS2 := And.intro (XC.cell (HS.1)) (And.intro (XC.cell (HS.2.1)) (And.intro (XC.cell (HS.2.2.1)) (XC.cell (HS.2.2.2))))
  refine valueD 12 (.pointer (some ⟨w.heap.size, 0, none⟩)) rfl rfl (by kernel_rfl) (by rfl) (w' := w.drew.alloc (.cells #[.int .i64 0, .int .i64 0, .int .i64 0] 145)) (by go_simp) (fun _ => HS2) ?_; try simp only [sx]
  obtain ⟨z0, z1, z2⟩ := BZ.c3
  obtain ⟨y0, y1, y2⟩ := BZ.fz3
  refine storeD 13 rfl rfl (by kernel_rfl) (by rfl) (w' := ((((w.drew.alloc (.cells #[.int .i64 0, .int .i64 0, .int .i64 0] 145)).setCell ⟨w.heap.size, 0, none⟩ (.int .i64 bg)).setCell ⟨w.heap.size, 1, none⟩ (.int .i64 bs)).setCell ⟨w.heap.size, 2, none⟩ (.int .i64 lf))) (by go_simp) (fun h => absurd (by decide) h) ?_
  refine wpAnyD_done (by kernel_rfl) ?_ _
  show _
  have B2 : Blk _ w.heap.size 145 [.int .i64 bg, .int .i64 bs, .int .i64 lf] := ((BZ.set 0 (.int .i64 bg)).set 1 (.int .i64 bs)).set 2 (.int .i64 lf)
  have X2 := set3_ext XZ (Nat.le_refl _) (.int .i64 bg) (.int .i64 bs) (.int .i64 lf)
  obtain ⟨W2, hW2⟩ := ex (((((w.drew.alloc (.cells #[.int .i64 0, .int .i64 0, .int .i64 0] 145)).setCell ⟨w.heap.size, 0, none⟩ (.int .i64 bg)).setCell ⟨w.heap.size, 1, none⟩ (.int .i64 bs)).setCell ⟨w.heap.size, 2, none⟩ (.int .i64 lf)))
  rw [show ((((w.drew.alloc (.cells ([.int .i64 0, .int .i64 0, .int .i64 0] : List Value).toArray 145)).setCell ⟨w.heap.size, 0, none⟩ (.int .i64 bg)).setCell ⟨w.heap.size, 1, none⟩ (.int .i64 bs)).setCell ⟨w.heap.size, 2, none⟩ (.int .i64 lf)) = W2 from hW2] at B2
  rw [hW2] at X2 ⊢
  clear hW2 BZ XZ XC HS2 HS z0 z1 z2 y0 y1 y2
  have e9 := X2.cell c9
  obtain ⟨z0, z1, z2⟩ := B2.c3
  have X2I := hidden X2
  have B2I := hidden B2
  clear X2 B2
  obtain ⟨z, hz⟩ := ex w.heap.size
  rw [hz] at z0 z1 z2 B2I ⊢
  replace hz := hidden hz
  go_upto_region 2 with fail
  by_cases hE2 : (st : Int) = bs
  ·have hnd : ((st : Int) == bs) = true := by simpa using hE2
   have hb := hidden (show (s.st.length : Int) = (⟨bs, bg, lf, lp⟩ : Frm).base by rw [hst.out]; exact hE2)
   refine wp_region_D (S := fun w' => w'.cell? ⟨q, 9, none⟩ = some (.slice a9 st cc9) ∧ w'.cell? ⟨z, 1, none⟩ = some (.int .i64 bs)) (D := []) (by kernel_rfl) ⟨e9, z1⟩ (fun HS => ?_)
   refine tk 0 [] (.pointer (some ⟨q, 0, none⟩)) HS ?_; try simp only [sx]
   refine tk 1 [] (.pointer (some ⟨q, 0, none⟩)) HS ?_; try simp only [sx]
   refine tk 2 [] (.pointer (some ⟨q, 9, none⟩)) HS ?_; try simp only [sx]
   refine tk 3 [] (.slice a9 st cc9) HS ?_; try simp only [sx]
   refine tk 4 [] (.int .i64 (st : Int)) HS ?_; try simp only [sx]
   refine tk 5 [] (.pointer (some ⟨z, 1, none⟩)) HS ?_; try simp only [sx]
   refine tk 6 [] (.int .i64 bs) HS ?_; try simp only [sx]
   refine tk 7 [] (.bool false) HS ?_; try simp only [sx]
   refine wpAnyD_done (by kernel_rfl) ?_ _
   show _
   rcases ho with rfl | rfl
   ·cases ht : toF E s.pc with
    | none => exact absurd (by rw [← hRI.out]; unfold endR; rw [hlI.out]; simp only; rw [if_neg (by have := hb.out; simp only at this; omega), if_pos trivial, ht]) hnsI.out
    | some t =>
     obtain ⟨t1, t2, t3, t4⟩ := toF_some ht
     obtain ⟨p, hpp⟩ := Int.eq_ofNat_of_zero_le hp0I.out
     rw [hpp] at t2 t3
     rw [Int.toNat_natCast] at t3
     have hpP := hidden (show p < E.P.length by omega)
     have hto := hidden t3
     have hRe := hidden (show Rs.go { s with pc := t, fr := s.fr.dropLast } = R from by rw [← hRI.out, end_28 hlI.out hb.out ht])
     replace hpp := hidden hpp
     replace ht := hidden ht
     clear t1 t2 t3 t4
     go_wp2_with fail
     refine (rquit_any W2.drew B q V X E s (hI.out.ext X2I.out.drew) (Nat.le_trans hB X2I.out.drew.size) hsI.out (by intro e; rw [e] at hlI; exact absurd hlI.out (by simp))).mono ?_
     rintro x w3 ⟨rfl, V3, hM3, hC3, hT3⟩
     have hC := hidden ((Chg.of_ext _ X2I.out.drew).trans hC3 (fun x hx => Or.inl hx))
     have hT := hidden (show ToV w.heap.size q V V3 from fun x hx => (hT3 x hx).imp id (fun h => Nat.le_trans X2I.out.drew.size h))
     have k14 := hM3.cell 14 (.int .i64 (p : Int)) (by show some (Value.int .i64 s.pc) = _; rw [hpp.out])
     have k3 := hM3.cell 3 _ rfl
     obtain ⟨bP, oP, cP, hvP, hcP, -, -, hcp⟩ := hM3.env.part_at (k := p) hpP.out
     change w3.cell? ⟨q, 3, none⟩ = some X.p at k3
     rw [hvP] at k3
     rw [hto.out] at hcp
     have hpl := hpP.out
     obtain ⟨nP, hnP⟩ := ex E.P.length
     rw [hnP] at k3 hcP hpl
     have hpi : (p : Int) < (nP : Int) := by omega
     have f14 := hM3.blk.frozen 14
     obtain ⟨p1, p2⟩ := (hM3.ext (Ext.refl w3).drew).cellq 14 (.int .i64 (t : Int)) (s' := { s with fr := s.fr.dropLast, pc := t }) rfl rfl rfl
     have hM3I := hidden hM3
     replace p1 := hidden p1
     replace p2 := hidden p2
     clear hM3 hC3 hT3 hnP hvP e9 z0 z1 z2
     go_wp2_with fail
     go_upto_region 6 with fail
     refine wp_region_D (S := fun w' => w'.cell? ⟨q, 3, none⟩ = some (.slice (some ⟨bP, oP, none⟩) nP cP) ∧ w'.cell? ⟨q, 14, none⟩ = some (.int .i64 (p : Int)) ∧ w'.cell? ⟨bP, oP + p, none⟩ = some (.int .i64 (t : Int))) (D := [13]) (by kernel_rfl) ⟨k3, k14, hcp⟩ (fun HS => ?_)
     refine tk 0 [11, 12, 13] (.pointer (some ⟨q, 0, none⟩)) HS ?_; try simp only [sx]
     refine tk 1 [2, 3, 4, 9, 10, 11, 12, 13] (.pointer (some ⟨q, 0, none⟩)) HS ?_; try simp only [sx]
     refine tk 2 [3, 4, 9, 10, 11, 12, 13] (.pointer (some ⟨q, 0, none⟩)) HS ?_; try simp only [sx]
     refine tk 3 [4, 9, 10, 11, 12, 13] (.pointer (some ⟨q, 3, none⟩)) HS ?_; try simp only [sx]
     refine tk 4 [9, 10, 11, 12, 13] (.slice (some ⟨bP, oP, none⟩) nP cP) HS ?_; try simp only [sx]
     refine tk 5 [6, 7, 8, 9, 10, 11, 12, 13] (.pointer (some ⟨q, 0, none⟩)) HS ?_; try simp only [sx]
     refine tk 6 [7, 8, 9, 10, 11, 12, 13] (.pointer (some ⟨q, 0, none⟩)) HS ?_; try simp only [sx]
     refine tk 7 [8, 9, 10, 11, 12, 13] (.pointer (some ⟨q, 14, none⟩)) HS ?_; try simp only [sx]
     refine tk 8 [9, 10, 11, 12, 13] (.int .i64 (p : Int)) HS ?_; try simp only [sx]
     refine tk 9 [10, 11, 12, 13] (.pointer (some ⟨bP, oP + p, none⟩)) HS ?_; try simp only [sx]
     refine tk 10 [11, 12, 13] (.int .i64 (t : Int)) HS ?_; try simp only [sx]
     refine tk 11 [12, 13] (.pointer (some ⟨q, 0, none⟩)) HS ?_; try simp only [sx]
     refine tk 12 [13] (.pointer (some ⟨q, 14, none⟩)) HS ?_; try simp only [sx]
     have g14 := (Ext.refl w3).drew.cell k14
     refine storeD 13 rfl rfl (by kernel_rfl) (by rfl) (w' := w3.drew.setCell ⟨q, 14, none⟩ (.int .i64 (t : Int))) (by go_simp) (fun h => absurd (by decide) h) ?_
     refine wpAnyD_done (by kernel_rfl) ?_ _
     show _
     go_wp2_with fail
     go_ret
     show RP w B q V X E R _ _
     rw [← hRe.out]
     exact ⟨rfl, V3, p1.out, (hC.out.next hT.out ((Chg.refl _ w3).drew)).next hT.out p2.out, hT.out⟩
   ·obtain ⟨hfv1, hfv2, hfv3, hfv4, hfv5, hfv6, hfv7⟩ := hsI.out.frv _ (last_mem hlI.out)
    simp only at hfv1 hfv2 hfv3 hfv4 hfv5 hfv6 hfv7
    obtain ⟨bk, rfl⟩ := Int.eq_ofNat_of_zero_le hfv3
    obtain ⟨bC, oC, cC, hvC, hcC, -, -, hca, -⟩ := hI.out.env.code_at (k := bk) (by omega)
    rw [Int.toNat_natCast] at hfv5
    obtain ⟨oc, hoc⟩ := ex (opC E.C bk)
    rw [hoc] at hca hfv5
    have c2 := hI.out.cell 2 _ rfl
    change w.cell? ⟨q, 2, none⟩ = some X.c at c2
    rw [hvC] at c2
    obtain ⟨nC, hnC⟩ := ex E.C.length
    rw [hnC] at c2 hcC hfv4
    cases lp
    ·have hoc2 : (oc == 29) = false := by
      have := of_decide_eq_false hfv5.symm
      simpa using this
     have hRe := hidden (show Rs.go { s with fr := s.fr.dropLast } = R from by rw [← hRI.out, end_31 hlI.out hb.out, if_neg (fun hh => absurd (show false = true from hh.1) (by decide))])
     replace hoc := hidden hoc
     replace hnC := hidden hnC
     clear hfv1 hfv2 hfv3 hfv5 hfv6 hfv7 hvC
     have e2 := X2I.out.drew.cell c2
     have ea := X2I.out.drew.cell hca
     go_wp2_with fail
     go_upto_region 8 with fail
     refine wp_region_D (S := fun w' => w'.cell? ⟨q, 2, none⟩ = some (.slice (some ⟨bC, oC, none⟩) nC cC) ∧ w'.cell? ⟨z, 0, none⟩ = some (.int .i64 (bk : Int)) ∧ w'.cell? ⟨bC, oC + bk * 2, none⟩ = some (.int .i64 oc) ∧ w'.cell? ⟨z, 2, none⟩ = some (.int .i64 lf)) (D := []) (by kernel_rfl) ⟨e2, z0, ea, z2⟩ (fun HS => ?_)
     refine tk 0 [] (.pointer (some ⟨q, 0, none⟩)) HS ?_; try simp only [sx]
     refine tk 1 [] (.pointer (some ⟨q, 0, none⟩)) HS ?_; try simp only [sx]
     refine tk 2 [] (.pointer (some ⟨q, 0, none⟩)) HS ?_; try simp only [sx]
     refine tk 3 [] (.pointer (some ⟨q, 2, none⟩)) HS ?_; try simp only [sx]
     refine tk 4 [] (.slice (some ⟨bC, oC, none⟩) nC cC) HS ?_; try simp only [sx]
     refine tk 5 [] (.pointer (some ⟨z, 0, none⟩)) HS ?_; try simp only [sx]
     refine tk 6 [] (.int .i64 (bk : Int)) HS ?_; try simp only [sx]
     refine tk 7 [] (.pointer (some ⟨bC, oC + bk * 2, none⟩)) HS ?_; try simp only [sx]
     refine tk 8 [] (.pointer (some ⟨bC, oC + bk * 2, none⟩)) HS ?_; try simp only [sx]
     refine tk 9 [] (.int .i64 oc) HS ?_; try simp only [sx]
     refine tk 10 [] (.bool false) HS ?_; try simp only [sx]
     refine tk 11 [] (.bool false) HS ?_; try simp only [sx]
     refine skipD 12 [] rfl rfl (by kernel_rfl) (by kernel_rfl) (by kernel_rfl) (by kernel_rfl) (by decide) (by decide) (fun _ _ _ h => h) (by rfl) HS ?_; try simp only [sx]
     refine skipD 13 [] rfl rfl (by kernel_rfl) (by kernel_rfl) (by kernel_rfl) (by kernel_rfl) (by decide) (by decide) (fun _ _ _ h => h) (by rfl) HS ?_; try simp only [sx]
     refine skipD 14 [] rfl rfl (by kernel_rfl) (by kernel_rfl) (by kernel_rfl) (by kernel_rfl) (by decide) (by decide) (fun _ _ _ h => h) (by rfl) HS ?_; try simp only [sx]
     refine tk 15 [] (.bool false) HS ?_; try simp only [sx]
     refine wpAnyD_done (by kernel_rfl) ?_ _
     show _
     go_wp2_with fail
     refine (rquit_any W2.drew.drew B q V X E s (hI.out.ext X2I.out.drew.drew) (Nat.le_trans hB X2I.out.drew.drew.size) hsI.out (by intro e; rw [e] at hlI; exact absurd hlI.out (by simp))).mono ?_
     rintro x w3 ⟨rfl, V3, hM3, hC3, hT3⟩
     have hC := hidden ((Chg.of_ext _ X2I.out.drew.drew).trans hC3 (fun x hx => Or.inl hx))
     have hT := hidden (show ToV w.heap.size q V V3 from fun x hx => (hT3 x hx).imp id (fun h => Nat.le_trans X2I.out.drew.drew.size h))
     have hM3I := hidden hM3
     clear hM3 hC3 hT3
     go_wp2_with fail
     go_ret
     show RP w B q V X E R _ _
     rw [← hRe.out]
     exact ⟨rfl, V3, hM3I.out, hC.out, hT.out⟩
    ·have hoc2 : oc = 29 := of_decide_eq_true hfv5.symm
     subst hoc2
     by_cases hlf : 1 < lf
     ·have hlf3 : decide (1 < lf) = true := decide_eq_true hlf
      have hlw : IntKind.i64.wrap (lf - 1) = lf - 1 := IntWalk.i64_in _ (by omega)
      have hRe := hidden (show tickF E { s with fr := s.fr.dropLast ++ [⟨bs, (bk : Int), lf - 1, true⟩], pc := bk } = R from by rw [← hRI.out, end_31 hlI.out hb.out, if_pos ⟨rfl, hlf⟩])
      have hok2 := hidden (show OkS E { s with fr := s.fr.dropLast ++ [⟨bs, (bk : Int), lf - 1, true⟩], pc := bk } by
       have hm2 := hm.out
       refine hsI.out.withFr _ _ ?_ ?_
       ·simp; omega
       ·intro x hx
        rcases List.mem_append.1 hx with hx | hx
        ·exact hsI.out.frv x (List.dropLast_subset _ hx)
        ·simp only [List.mem_singleton] at hx
         subst hx
         have hf := hsI.out.frv _ (last_mem hlI.out)
         exact ⟨hf.1, hf.2.1, hf.2.2.1, hf.2.2.2.1, hf.2.2.2.2.1, by show 0 ≤ lf - 1; omega, by show lf - 1 ≤ _; omega⟩)
      have hgw : g < w.heap.size := by have := (own_lt hrowI.out (x := g) (by rw [hV0.out]; rfl)).2; omega
      have fg2 := fun W (c : Ext w W) => c.frozen (t := false) d2 (by have := hrowI.out; rw [hV0.out] at this; exact arow_frozen this)
      have hzg : g ≠ z := by rw [← hz.out]; omega
      replace hoc := hidden hoc
      replace hnC := hidden hnC
      clear hfv1 hfv2 hfv3 hfv5 hfv6 hfv7 hvC
      have ff := fg2 W2.drew.drew.drew X2I.out.drew.drew.drew
      clear fg2 hgw
      have e2 := X2I.out.drew.cell c2
      have ea := X2I.out.drew.cell hca
      go_wp2_with fail
      go_upto_region 8 with fail
      refine wp_region_D (S := fun w' => w'.cell? ⟨q, 2, none⟩ = some (.slice (some ⟨bC, oC, none⟩) nC cC) ∧ w'.cell? ⟨z, 0, none⟩ = some (.int .i64 (bk : Int)) ∧ w'.cell? ⟨bC, oC + bk * 2, none⟩ = some (.int .i64 29) ∧ w'.cell? ⟨z, 2, none⟩ = some (.int .i64 lf)) (D := []) (by kernel_rfl) ⟨e2, z0, ea, z2⟩ (fun HS => ?_)
      refine tk 0 [] (.pointer (some ⟨q, 0, none⟩)) HS ?_; try simp only [sx]
      refine tk 1 [] (.pointer (some ⟨q, 0, none⟩)) HS ?_; try simp only [sx]
      refine tk 2 [] (.pointer (some ⟨q, 0, none⟩)) HS ?_; try simp only [sx]
      refine tk 3 [] (.pointer (some ⟨q, 2, none⟩)) HS ?_; try simp only [sx]
      refine tk 4 [] (.slice (some ⟨bC, oC, none⟩) nC cC) HS ?_; try simp only [sx]
      refine tk 5 [] (.pointer (some ⟨z, 0, none⟩)) HS ?_; try simp only [sx]
      refine tk 6 [] (.int .i64 (bk : Int)) HS ?_; try simp only [sx]
      refine tk 7 [] (.pointer (some ⟨bC, oC + bk * 2, none⟩)) HS ?_; try simp only [sx]
      refine tk 8 [] (.pointer (some ⟨bC, oC + bk * 2, none⟩)) HS ?_; try simp only [sx]
      refine tk 9 [] (.int .i64 29) HS ?_; try simp only [sx]
      refine tk 10 [] (.bool true) HS ?_; try simp only [sx]
      refine tk 11 [] (.bool true) HS ?_; try simp only [sx]
      refine tk 12 [] (.pointer (some ⟨z, 2, none⟩)) HS ?_; try simp only [sx]
      refine tk 13 [] (.int .i64 lf) HS ?_; try simp only [sx]
      refine tk 14 [] (.bool true) HS ?_; try simp only [sx]
      refine tk 15 [] (.bool true) HS ?_; try simp only [sx]
      refine wpAnyD_done (by kernel_rfl) ?_ _
      show _
      have e11 := X2I.out.drew.drew.cell c11
      have e22 := X2I.out.drew.drew.drew.cell d2
      have z0' := (Ext.refl W2).drew.drew.drew.cell z0
      go_wp2_with fail
      go_upto_region 9 with fail
      refine wp_region_D (S := fun w' => w'.cell? ⟨q, 11, none⟩ = some (.slice (some ⟨g, 0, none⟩) (m + 1) cv) ∧ w'.cell? ⟨z, 2, none⟩ = some (.int .i64 lf)) (D := [15]) (by kernel_rfl) ⟨e11, z2⟩ (fun HS => ?_)
      refine tk 0 [1, 2, 3, 13, 14, 15] (.pointer (some ⟨q, 0, none⟩)) HS ?_; try simp only [sx]
      refine tk 1 [2, 3, 13, 14, 15] (.pointer (some ⟨q, 0, none⟩)) HS ?_; try simp only [sx]
      refine tk 2 [3, 13, 14, 15] (.pointer (some ⟨q, 11, none⟩)) HS ?_; try simp only [sx]
      refine tk 3 [13, 14, 15] (.slice (some ⟨g, 0, none⟩) (m + 1) cv) HS ?_; try simp only [sx]
      refine tk 4 [5, 6, 7, 8, 9, 13, 14, 15] (.pointer (some ⟨q, 0, none⟩)) HS ?_; try simp only [sx]
      refine tk 5 [6, 7, 8, 9, 13, 14, 15] (.pointer (some ⟨q, 0, none⟩)) HS ?_; try simp only [sx]
      refine tk 6 [7, 8, 9, 13, 14, 15] (.pointer (some ⟨q, 11, none⟩)) HS ?_; try simp only [sx]
      refine tk 7 [8, 9, 13, 14, 15] (.slice (some ⟨g, 0, none⟩) (m + 1) cv) HS ?_; try simp only [sx]
      refine tk 8 [9, 13, 14, 15] (.int .i64 ((m + 1 : Nat) : Int)) HS ?_; try simp only [sx]
      refine tk 9 [13, 14, 15] (.int .i64 (m : Int)) HS ?_; try simp only [sx]
      refine tk 10 [11, 12, 13, 14, 15] (.pointer (some ⟨z, 2, none⟩)) HS ?_; try simp only [sx]
      refine tk 11 [12, 13, 14, 15] (.int .i64 lf) HS ?_; try simp only [sx]
      refine tk 12 [13, 14, 15] (.int .i64 (lf - 1)) HS ?_; try simp only [sx]
      refine tk 13 [14, 15] (.pointer (some ⟨g, m * 3, none⟩)) HS ?_; try simp only [sx]
      refine tk 14 [15] (.pointer (some ⟨g, m * 3 + 2, none⟩)) HS ?_; try simp only [sx]
      refine storeD 15 rfl rfl (by kernel_rfl) (by rfl) (w' := W2.drew.drew.drew.setCell ⟨g, m * 3 + 2, none⟩ (.int .i64 (lf - 1))) (by go_simp) (fun h => absurd (by decide) h) ?_
      refine wpAnyD_done (by kernel_rfl) ?_ _
      show _
      obtain ⟨n1, n2⟩ := (hI.out.ext X2I.out.drew.drew.drew).cellr (i := 3) (g := g) (cap := cv) (n := s.fr.length) (sz := 3) (t := 145) (cs := s.fr.flatMap fcR) (s' := { s with fr := s.fr.dropLast ++ [⟨bs, (bk : Int), lf - 1, true⟩] }) (by rw [← hV0.out]; rfl) (m * 3 + 2) (.int .i64 (lf - 1))
       (by
        have e1 := set_left3 hlI.out (lf - 1)
        rw [hm.out, Nat.add_sub_cancel] at e1
        rw [e1]
        have e2 : (s.fr.dropLast ++ [(⟨bs, (bk : Int), lf - 1, true⟩ : Frm)]).length = s.fr.length := by have := hm.out; simp; omega
        unfold rowsG
        simp only [e2]
        rw [hV0.out]
        rfl) rfl rfl
      have n3 := (Chg.of_ext (SV q V) X2I.out.drew.drew.drew).trans n2 (fun x hx => Or.inl hx)
      have z0'' := set_other (a := ⟨g, m * 3 + 2, none⟩) (u := .int .i64 (lf - 1)) (fun e => hzg (congrArg Addr.block e)) z0'
      obtain ⟨W3, hW3⟩ := ex (W2.drew.drew.drew.setCell ⟨g, m * 3 + 2, none⟩ (.int .i64 (lf - 1)))
      rw [hW3] at n1 n3 z0'' ⊢
      clear hW3 n2
      have k14 := n1.cell 14 _ rfl
      have f14 := n1.blk.frozen 14
      obtain ⟨p1, p2⟩ := n1.cellq 14 (.int .i64 (bk : Int)) (s' := { s with fr := s.fr.dropLast ++ [⟨bs, (bk : Int), lf - 1, true⟩], pc := bk }) rfl rfl rfl
      have n1I := hidden n1
      have hC := hidden (n3.trans p2 (fun x hx => Or.inl hx))
      clear n1 n3 p2
      go_wp2_with fail
      obtain ⟨W4, hW4⟩ := ex (W3.setCell ⟨q, 14, none⟩ (.int .i64 (bk : Int)))
      rw [hW4] at p1 hC ⊢
      clear hW4
      refine (rstep_any W4 B q V X E _ p1 hok2.out hEI.out).mono ?_
      intro x w5 hm5
      obtain ⟨R5, hR5⟩ := ex (tickF E { s with fr := s.fr.dropLast ++ [⟨bs, (bk : Int), lf - 1, true⟩], pc := bk })
      have hg5 : RP w B q V X E R5 x w5 := by
       rw [hR5] at hm5
       cases R5 with
       | stuck => exact hm5
       | err e => exact ⟨hm5.1, hC.out.next (ToV.refl _ _ _) hm5.2⟩
       | go s' =>
        obtain ⟨h1, V', h2, h3, h4⟩ := hm5
        exact ⟨h1, V', h2, hC.out.next (ToV.refl _ _ _) h3, fun x hx => (h4 x hx).imp id (fun h => Nat.le_trans hC.out.size h)⟩
      have hx5 : ∃ e, x = .returned (.int .i64 e) := by
       rw [hR5] at hm5
       cases R5 with
       | stuck => exact hm5.elim
       | err e => exact ⟨_, hm5.1⟩
       | go s' => exact ⟨_, hm5.1⟩
      obtain ⟨e5, rfl⟩ := hx5
      replace hg5 := hidden hg5
      clear hm5
      go_wp2_with fail
      go_ret
      show RP w B q V X E R _ _
      rw [← hRe.out, hR5]
      exact hg5.out
     ·have hlf3 : decide (1 < lf) = false := decide_eq_false hlf
      have hRe := hidden (show Rs.go { s with fr := s.fr.dropLast } = R from by rw [← hRI.out, end_31 hlI.out hb.out, if_neg (fun hh => hlf hh.2)])
      replace hoc := hidden hoc
      replace hnC := hidden hnC
      clear hfv1 hfv2 hfv3 hfv5 hfv6 hfv7 hvC
      have e2 := X2I.out.drew.cell c2
      have ea := X2I.out.drew.cell hca
      go_wp2_with fail
      go_upto_region 8 with fail
      refine wp_region_D (S := fun w' => w'.cell? ⟨q, 2, none⟩ = some (.slice (some ⟨bC, oC, none⟩) nC cC) ∧ w'.cell? ⟨z, 0, none⟩ = some (.int .i64 (bk : Int)) ∧ w'.cell? ⟨bC, oC + bk * 2, none⟩ = some (.int .i64 29) ∧ w'.cell? ⟨z, 2, none⟩ = some (.int .i64 lf)) (D := []) (by kernel_rfl) ⟨e2, z0, ea, z2⟩ (fun HS => ?_)
      refine tk 0 [] (.pointer (some ⟨q, 0, none⟩)) HS ?_; try simp only [sx]
      refine tk 1 [] (.pointer (some ⟨q, 0, none⟩)) HS ?_; try simp only [sx]
      refine tk 2 [] (.pointer (some ⟨q, 0, none⟩)) HS ?_; try simp only [sx]
      refine tk 3 [] (.pointer (some ⟨q, 2, none⟩)) HS ?_; try simp only [sx]
      refine tk 4 [] (.slice (some ⟨bC, oC, none⟩) nC cC) HS ?_; try simp only [sx]
      refine tk 5 [] (.pointer (some ⟨z, 0, none⟩)) HS ?_; try simp only [sx]
      refine tk 6 [] (.int .i64 (bk : Int)) HS ?_; try simp only [sx]
      refine tk 7 [] (.pointer (some ⟨bC, oC + bk * 2, none⟩)) HS ?_; try simp only [sx]
      refine tk 8 [] (.pointer (some ⟨bC, oC + bk * 2, none⟩)) HS ?_; try simp only [sx]
      refine tk 9 [] (.int .i64 29) HS ?_; try simp only [sx]
      refine tk 10 [] (.bool true) HS ?_; try simp only [sx]
      refine tk 11 [] (.bool true) HS ?_; try simp only [sx]
      refine tk 12 [] (.pointer (some ⟨z, 2, none⟩)) HS ?_; try simp only [sx]
      refine tk 13 [] (.int .i64 lf) HS ?_; try simp only [sx]
      refine tk 14 [] (.bool false) HS ?_; try simp only [sx]
      refine tk 15 [] (.bool false) HS ?_; try simp only [sx]
      refine wpAnyD_done (by kernel_rfl) ?_ _
      show _
      go_wp2_with fail
      refine (rquit_any W2.drew.drew B q V X E s (hI.out.ext X2I.out.drew.drew) (Nat.le_trans hB X2I.out.drew.drew.size) hsI.out (by intro e; rw [e] at hlI; exact absurd hlI.out (by simp))).mono ?_
      rintro x w3 ⟨rfl, V3, hM3, hC3, hT3⟩
      have hC := hidden ((Chg.of_ext _ X2I.out.drew.drew).trans hC3 (fun x hx => Or.inl hx))
      have hT := hidden (show ToV w.heap.size q V V3 from fun x hx => (hT3 x hx).imp id (fun h => Nat.le_trans X2I.out.drew.drew.size h))
      have hM3I := hidden hM3
      clear hM3 hC3 hT3
      go_wp2_with fail
      go_ret
      show RP w B q V X E R _ _
      rw [← hRe.out]
      exact ⟨rfl, V3, hM3I.out, hC.out, hT.out⟩
  ·have hnd : ((st : Int) == bs) = false := by simpa using hE2
   have hRe := hidden (show Rs.err 14 = R from by rw [← hRI.out, end_err hlI.out (by show (s.st.length : Int) ≠ bs; rw [hst.out]; exact hE2)])
   refine wp_region_D (S := fun w' => w'.cell? ⟨q, 9, none⟩ = some (.slice a9 st cc9) ∧ w'.cell? ⟨z, 1, none⟩ = some (.int .i64 bs)) (D := []) (by kernel_rfl) ⟨e9, z1⟩ (fun HS => ?_)
   refine tk 0 [] (.pointer (some ⟨q, 0, none⟩)) HS ?_; try simp only [sx]
   refine tk 1 [] (.pointer (some ⟨q, 0, none⟩)) HS ?_; try simp only [sx]
   refine tk 2 [] (.pointer (some ⟨q, 9, none⟩)) HS ?_; try simp only [sx]
   refine tk 3 [] (.slice a9 st cc9) HS ?_; try simp only [sx]
   refine tk 4 [] (.int .i64 (st : Int)) HS ?_; try simp only [sx]
   refine tk 5 [] (.pointer (some ⟨z, 1, none⟩)) HS ?_; try simp only [sx]
   refine tk 6 [] (.int .i64 bs) HS ?_; try simp only [sx]
   refine tk 7 [] (.bool true) HS ?_; try simp only [sx]
   refine wpAnyD_done (by kernel_rfl) ?_ _
   show _
   go_wp2_with fail
   go_ret
   show RP w B q V X E R _ _
   rw [← hRe.out]
   exact ⟨rfl, Chg.of_ext _ X2I.out.drew⟩
theorem RP.later {w w1 w' : World} {B q : Nat} {V V1 : Vs} {X : EV} {E : Env} {R : Rs} {x : Ending} (h : RP w1 B q V1 X E R x w') (c : Chg (SV q V) w w1) (t : ToV w.heap.size q V V1) : RP w B q V X E R x w' := by
 cases R with
 | stuck => exact h
 | err e => exact ⟨h.1, c.next t h.2⟩
 | go s' =>
  obtain ⟨h1, V', h2, h3, h4⟩ := h
  exact ⟨h1, V', h2, c.next t h3, t.trans h4 c.size⟩
theorem RP.ret {w w' : World} {B q : Nat} {V : Vs} {X : EV} {E : Env} {R : Rs} {x : Ending} (h : RP w B q V X E R x w') : ∃ e, x = .returned (.int .i64 e) := by
 cases R with
 | stuck => exact h.elim
 | err e => exact ⟨_, h.1⟩
 | go s' => exact ⟨_, h.1⟩
theorem rblk27 (w : World) (B q : Nat) (V : Vs) (X : EV) (E : Env) (s : MS) (h : MSt LR w B q V X E s) (hB : B ≤ w.heap.size) (hs : OkS E s) (hE : OkE E) (hp0 : 0 ≤ s.pc) (hp1 : s.pc < E.C.length) (y : Int) (t0 : Bool) (vl : Value) (hl : Rd w 2 vl 1 ([(y, t0)].flatMap vcR)) (hyu : U32 y) (hns : ifR E y s ≠ .stuck) :
  Calls Tryz.prog 57 #[.pointer (some ⟨q, 0, none⟩), .int .i64 27, vl] w (RP w B q V X E (ifR E y s)) := by
 obtain ⟨lv, lc, rfl, -⟩ := Rd.shape hl
 obtain ⟨lb, lo, rfl, -, -⟩ := Rd.cells hl (by decide)
 have g1 := rd_at hl 1 _ rfl
 obtain ⟨p, hpp⟩ := Int.eq_ofNat_of_zero_le hp0
 have hP0 := hE.P0
 have hC0 := hE.C0
 have hpP : p < E.P.length := by omega
 have hpC : p < E.C.length := by omega
 obtain ⟨bP, oP, cP, hvP, hcP, -, -, hcp⟩ := h.env.part_at (k := p) hpP
 obtain ⟨tg, hto⟩ := ex (E.P.getD p 0)
 rw [hto] at hcp
 have c3 := h.cell 3 _ rfl
 change w.cell? ⟨q, 3, none⟩ = some X.p at c3
 rw [hvP] at c3
 have c14 := h.cell 14 (.int .i64 (p : Int)) (by show some (Value.int .i64 s.pc) = _; rw [hpp])
 have htt : ∀ t : Nat, toF E s.pc = some t → tg = (t : Int) ∧ t < E.C.length := by
  intro t ht
  obtain ⟨t1, t2, t3, t4⟩ := toF_some ht
  rw [hpp, Int.toNat_natCast, hto] at t3
  exact ⟨t3, t4⟩
 obtain ⟨nP, hnP⟩ := ex E.P.length
 rw [hnP] at c3 hcP hpP hP0
 have hpi : (p : Int) < (nP : Int) := by omega
 have hI := hidden h
 have hsI := hidden hs
 have hEI := hidden hE
 have htt := hidden htt
 have hppI := hidden hpp
 have hp0I := hidden hp0
 have hp1I := hidden hp1
 replace hto := hidden hto
 obtain ⟨R, hR⟩ : ∃ R, ifR E y s = R := ⟨_, rfl⟩
 rw [hR] at hns ⊢
 clear h hs hE hpp hnP hvP hl hp0 hp1
 replace hns := hidden hns
 go_enter Tryz.func57, Tryz.ntmps57
 go_upto_region 1 with fail
 refine wp_region_D (S := fun w' => w'.cell? ⟨q, 3, none⟩ = some (.slice (some ⟨bP, oP, none⟩) nP cP) ∧ w'.cell? ⟨q, 14, none⟩ = some (.int .i64 (p : Int)) ∧ w'.cell? ⟨bP, oP + p, none⟩ = some (.int .i64 tg)) (D := []) (by kernel_rfl) ⟨c3, c14, hcp⟩ (fun HS => ?_)
 refine tk 0 [] (.pointer (some ⟨q, 0, none⟩)) HS ?_; try simp only [sx]
 refine tk 1 [] (.pointer (some ⟨q, 0, none⟩)) HS ?_; try simp only [sx]
 refine tk 2 [] (.pointer (some ⟨q, 3, none⟩)) HS ?_; try simp only [sx]
 refine tk 3 [] (.slice (some ⟨bP, oP, none⟩) nP cP) HS ?_; try simp only [sx]
 refine tk 4 [] (.pointer (some ⟨q, 0, none⟩)) HS ?_; try simp only [sx]
 refine tk 5 [] (.pointer (some ⟨q, 0, none⟩)) HS ?_; try simp only [sx]
 refine tk 6 [] (.pointer (some ⟨q, 14, none⟩)) HS ?_; try simp only [sx]
 refine tk 7 [] (.int .i64 (p : Int)) HS ?_; try simp only [sx]
 refine tk 8 [] (.pointer (some ⟨bP, oP + p, none⟩)) HS ?_; try simp only [sx]
 refine tk 9 [] (.int .i64 tg) HS ?_; try simp only [sx]
 refine tk 10 [] (.int .i64 tg) HS ?_; try simp only [sx]
 refine wpAnyD_done (by kernel_rfl) ?_ _
 show _
 have XW := (Ext.refl w).drew
 have e1 := XW.cell g1
 have e14 := XW.cell c14
 have hMI := hidden (hI.out.ext XW)
 have hBW := hidden (Nat.le_trans hB XW.size)
 have f14 := (hI.out.ext XW).blk.frozen 14
 obtain ⟨W, hW⟩ := ex w.drew
 rw [hW] at XW e1 e14 hMI hBW f14 ⊢
 have XWI := hidden XW
 replace hW := hidden hW
 clear XW HS g1 c14 c3 hcp
 unfold ifR at hR
 by_cases hy : y ≠ 0
 ·rw [if_pos hy] at hR
  have hyd : (y == 0) = false := by simpa using hy
  by_cases h8 : 8 ≤ s.fr.length
  ·rw [if_pos h8] at hR; exact absurd hR.symm hns.out
  rw [if_neg h8] at hR
  replace hR := hidden hR
  clear h8
  go_wp2_with fail
  refine (renter_any (p : Int) 0 W B q V X E s hMI.out hBW.out hsI.out ⟨s.st.length, s.pc, 0, false⟩ (by show [Value.int .i64 s.pc, _, _] = _; rw [hppI.out])).mono ?_
  rintro x w3 ⟨rfl, V3, hM3, hC3, hT3⟩
  have hC := hidden ((Chg.of_ext _ XWI.out).trans hC3 (fun x hx => Or.inl hx))
  have hT := hidden (show ToV w.heap.size q V V3 from fun x hx => (hT3 x hx).imp id (fun h => Nat.le_trans XWI.out.size h))
  have hMI3 := hidden hM3
  clear hM3 hC3 hT3
  go_wp2_with fail
  go_ret
  show RP w B q V X E R _ _
  rw [← hR.out]
  exact ⟨rfl, V3, hMI3.out, hC.out, hT.out⟩
 ·rw [if_neg hy] at hR
  obtain rfl : y = 0 := by omega
  clear hy
  cases ht : toF E s.pc with
  | none => rw [ht] at hR; exact absurd hR.symm hns.out
  | some t =>
   rw [ht] at hR
   simp only at hR
   obtain ⟨hto2, htl⟩ := htt.out t ht
   subst hto2
   obtain ⟨bC, oC, cC, hvC, hcC, -, -, hca, -⟩ := hMI.out.env.code_at (k := t) htl
   have c2 := hMI.out.cell 2 _ rfl
   change W.cell? ⟨q, 2, none⟩ = some X.c at c2
   rw [hvC] at c2
   obtain ⟨nC, hnC⟩ := ex E.C.length
   rw [hnC] at c2 hcC htl
   have hti : (t : Int) < (nC : Int) := by omega
   by_cases h31 : opC E.C t = 31
   ·rw [if_pos h31] at hR
    rw [h31] at hca
    replace hR := hidden hR
    replace hnC := hidden hnC
    replace h31 := hidden h31
    replace ht := hidden ht
    obtain ⟨p1, p2⟩ := hMI.out.cellq 14 (.int .i64 (t : Int)) (s' := { s with pc := t }) rfl rfl rfl
    have p1I := hidden p1
    have p2I := hidden p2
    clear p1 p2 hvC
    go_wp2_with fail
    go_ret
    show RP w B q V X E R _ _
    rw [← hR.out]
    exact ⟨rfl, V, p1I.out, (Chg.of_ext _ XWI.out).trans p2I.out (fun x hx => Or.inl hx), ToV.refl _ _ _⟩
   ·rw [if_neg h31] at hR
    by_cases h28 : opC E.C t = 28
    ·rw [if_pos h28] at hR
     rw [h28] at hca
     by_cases h8 : 8 ≤ s.fr.length
     ·rw [if_pos h8] at hR; exact absurd hR.symm hns.out
     rw [if_neg h8] at hR
     replace hR := hidden hR
     replace hnC := hidden hnC
     replace h28 := hidden h28
     replace ht := hidden ht
     clear h31 h8 hvC
     go_wp2_with fail
     refine (renter_any (p : Int) 0 W B q V X E s hMI.out hBW.out hsI.out ⟨s.st.length, s.pc, 0, false⟩ (by show [Value.int .i64 s.pc, _, _] = _; rw [hppI.out])).mono ?_
     rintro x w3 ⟨rfl, V3, hM3, hC3, hT3⟩
     have hC := hidden ((Chg.of_ext _ XWI.out).trans hC3 (fun x hx => Or.inl hx))
     have hT := hidden (show ToV w.heap.size q V V3 from fun x hx => (hT3 x hx).imp id (fun h => Nat.le_trans XWI.out.size h))
     have k14 := hM3.cell 14 (.int .i64 (p : Int)) (by show some (Value.int .i64 s.pc) = _; rw [hppI.out])
     have k14f := hM3.blk.frozen 14
     obtain ⟨p1, p2⟩ := hM3.cellq 14 (.int .i64 (t : Int)) (s' := { s with fr := s.fr ++ [⟨s.st.length, s.pc, 0, false⟩], pc := t }) rfl rfl rfl
     have p1I := hidden p1
     have p2I := hidden p2
     clear hM3 hC3 hT3 p1 p2
     go_wp2_with fail
     go_ret
     show RP w B q V X E R _ _
     rw [← hR.out]
     exact ⟨rfl, V3, p1I.out, hC.out.next hT.out p2I.out, hT.out⟩
    ·rw [if_neg h28] at hR; exact absurd hR.symm hns.out
theorem rblk29 (w : World) (B q : Nat) (V : Vs) (X : EV) (E : Env) (s : MS) (h : MSt LR w B q V X E s) (hB : B ≤ w.heap.size) (hs : OkS E s) (hE : OkE E) (hp0 : 0 ≤ s.pc) (hp1 : s.pc < E.C.length) (y : Int) (t0 : Bool) (vl : Value) (hl : Rd w 2 vl 1 ([(y, t0)].flatMap vcR)) (hyu : U32 y) (hop : opC E.C s.pc.toNat = 29) (hns : loopF E y s ≠ .stuck) :
  Calls Tryz.prog 57 #[.pointer (some ⟨q, 0, none⟩), .int .i64 29, vl] w (RP w B q V X E (loopF E y s)) := by
 obtain ⟨lv, lc, rfl, -⟩ := Rd.shape hl
 obtain ⟨lb, lo, rfl, -, -⟩ := Rd.cells hl (by decide)
 have g1 := rd_at hl 1 _ rfl
 obtain ⟨p, hpp⟩ := Int.eq_ofNat_of_zero_le hp0
 have hP0 := hE.P0
 have hC0 := hE.C0
 have hpP : p < E.P.length := by omega
 have hpC : p < E.C.length := by omega
 obtain ⟨bP, oP, cP, hvP, hcP, -, -, hcp⟩ := h.env.part_at (k := p) hpP
 obtain ⟨tg, hto⟩ := ex (E.P.getD p 0)
 rw [hto] at hcp
 have c3 := h.cell 3 _ rfl
 change w.cell? ⟨q, 3, none⟩ = some X.p at c3
 rw [hvP] at c3
 have c14 := h.cell 14 (.int .i64 (p : Int)) (by show some (Value.int .i64 s.pc) = _; rw [hpp])
 have htt : ∀ t : Nat, toF E s.pc = some t → tg = (t : Int) ∧ t < E.C.length := by
  intro t ht
  obtain ⟨t1, t2, t3, t4⟩ := toF_some ht
  rw [hpp, Int.toNat_natCast, hto] at t3
  exact ⟨t3, t4⟩
 obtain ⟨nP, hnP⟩ := ex E.P.length
 rw [hnP] at c3 hcP hpP hP0
 have hpi : (p : Int) < (nP : Int) := by omega
 have hI := hidden h
 have hsI := hidden hs
 have hEI := hidden hE
 have htt := hidden htt
 have hppI := hidden hpp
 have hp0I := hidden hp0
 have hp1I := hidden hp1
 replace hto := hidden hto
 have hopI := hidden hop
 clear hop
 obtain ⟨R, hR⟩ := ex (loopF E y s)
 rw [hR] at hns ⊢
 clear h hs hE hpp hnP hvP hl hp0 hp1
 replace hns := hidden hns
 go_enter Tryz.func57, Tryz.ntmps57
 go_upto_region 1 with fail
 refine wp_region_D (S := fun w' => w'.cell? ⟨q, 3, none⟩ = some (.slice (some ⟨bP, oP, none⟩) nP cP) ∧ w'.cell? ⟨q, 14, none⟩ = some (.int .i64 (p : Int)) ∧ w'.cell? ⟨bP, oP + p, none⟩ = some (.int .i64 tg)) (D := []) (by kernel_rfl) ⟨c3, c14, hcp⟩ (fun HS => ?_)
 refine tk 0 [] (.pointer (some ⟨q, 0, none⟩)) HS ?_; try simp only [sx]
 refine tk 1 [] (.pointer (some ⟨q, 0, none⟩)) HS ?_; try simp only [sx]
 refine tk 2 [] (.pointer (some ⟨q, 3, none⟩)) HS ?_; try simp only [sx]
 refine tk 3 [] (.slice (some ⟨bP, oP, none⟩) nP cP) HS ?_; try simp only [sx]
 refine tk 4 [] (.pointer (some ⟨q, 0, none⟩)) HS ?_; try simp only [sx]
 refine tk 5 [] (.pointer (some ⟨q, 0, none⟩)) HS ?_; try simp only [sx]
 refine tk 6 [] (.pointer (some ⟨q, 14, none⟩)) HS ?_; try simp only [sx]
 refine tk 7 [] (.int .i64 (p : Int)) HS ?_; try simp only [sx]
 refine tk 8 [] (.pointer (some ⟨bP, oP + p, none⟩)) HS ?_; try simp only [sx]
 refine tk 9 [] (.int .i64 tg) HS ?_; try simp only [sx]
 refine tk 10 [] (.int .i64 tg) HS ?_; try simp only [sx]
 refine wpAnyD_done (by kernel_rfl) ?_ _
 show _
 have XW := (Ext.refl w).drew
 have e1 := XW.cell g1
 have e14 := XW.cell c14
 have hMI := hidden (hI.out.ext XW)
 have hBW := hidden (Nat.le_trans hB XW.size)
 have f14 := (hI.out.ext XW).blk.frozen 14
 obtain ⟨W, hW⟩ := ex w.drew
 rw [hW] at XW e1 e14 hMI hBW f14 ⊢
 have XWI := hidden XW
 replace hW := hidden hW
 clear XW HS g1 c14 c3 hcp
 unfold loopF at hR
 by_cases hy : 65536 < y
 ·rw [if_pos hy] at hR
  have hyd : decide (65536 < y) = true := decide_eq_true hy
  replace hR := hidden hR
  go_wp2_with fail
  go_ret
  show RP w B q V X E R _ _
  rw [← hR.out]
  exact ⟨rfl, Chg.of_ext _ XWI.out⟩
 ·rw [if_neg hy] at hR
  have hyd : decide (65536 < y) = false := decide_eq_false hy
  by_cases hz : y = 0
  ·rw [if_pos hz] at hR
   subst hz
   clear hy hyd
   cases ht : toF E s.pc with
   | none => rw [ht] at hR; exact absurd hR.symm hns.out
   | some t =>
    rw [ht] at hR
    simp only at hR
    obtain ⟨hto2, htl⟩ := htt.out t ht
    subst hto2
    replace hR := hidden hR
    replace ht := hidden ht
    obtain ⟨p1, p2⟩ := hMI.out.cellq 14 (.int .i64 (t : Int)) (s' := { s with pc := t }) rfl rfl rfl
    have p1I := hidden p1
    have p2I := hidden p2
    clear p1 p2 htl
    go_wp2_with fail
    go_ret
    show RP w B q V X E R _ _
    rw [← hR.out]
    exact ⟨rfl, V, p1I.out, (Chg.of_ext _ XWI.out).trans p2I.out (fun x hx => Or.inl hx), ToV.refl _ _ _⟩
  ·rw [if_neg hz] at hR
   have hz2 : (y == 0) = false := by simpa using hz
   by_cases h8 : 8 ≤ s.fr.length
   ·rw [if_pos h8] at hR; exact absurd hR.symm hns.out
   rw [if_neg h8] at hR
   have hyw : IntKind.i64.wrap y = y := IntWalk.i64_in _ (by have := hyu.1; omega)
   have hok2 := hidden (hsI.out.frame hp0I.out hp1I.out y true (by rw [hopI.out]; rfl) hyu.1 (by omega) h8 s.pc)
   replace hR := hidden hR
   replace hyu := hidden hyu
   clear h8
   go_wp2_with fail
   go_upto_region 17 with fail
   refine wp_region_D (S := fun w' => w'.cell? ⟨q, 14, none⟩ = some (.int .i64 (p : Int)) ∧ w'.cell? ⟨lb, lo + 1, none⟩ = some (.int .u32 y)) (D := [10]) (by kernel_rfl) ⟨e14, e1⟩ (fun HS => ?_)
   refine tk 0 [10] (.pointer (some ⟨q, 0, none⟩)) HS ?_; try simp only [sx]
   refine tk 1 [2, 3, 4, 10] (.pointer (some ⟨q, 0, none⟩)) HS ?_; try simp only [sx]
   refine tk 2 [3, 4, 10] (.pointer (some ⟨q, 0, none⟩)) HS ?_; try simp only [sx]
   refine tk 3 [4, 10] (.pointer (some ⟨q, 14, none⟩)) HS ?_; try simp only [sx]
   refine tk 4 [10] (.int .i64 (p : Int)) HS ?_; try simp only [sx]
   refine tk 5 [6, 7, 8, 9, 10] (.slice (some ⟨lb, lo, none⟩) 1 lc) HS ?_; try simp only [sx]
   refine tk 6 [7, 8, 9, 10] (.pointer (some ⟨lb, lo, none⟩)) HS ?_; try simp only [sx]
   refine tk 7 [8, 9, 10] (.pointer (some ⟨lb, lo + 1, none⟩)) HS ?_; try simp only [sx]
   refine tk 8 [9, 10] (.int .u32 y) HS ?_; try simp only [sx]
   refine tk 9 [10] (.int .i64 y) HS ?_; try simp only [sx]
   refine callVD 10 80 #[.pointer (some ⟨q, 0, none⟩), .int .i64 (p : Int), .int .i64 y] rfl rfl (by kernel_rfl) (by rfl) (by go_simp) (renter_any (p : Int) y W.drew B q V X E s (hMI.out.ext (Ext.refl W).drew) (Nat.le_trans hBW.out (Ext.refl W).drew.size) hsI.out ⟨s.st.length, s.pc, y, true⟩ (by show [Value.int .i64 s.pc, _, _] = _; rw [hppI.out])) ?_
   rintro x w3 ⟨rfl, V3, hM3, hC3, hT3⟩
   refine Or.inl ⟨_, rfl, fun h => absurd (by decide) h, ?_⟩
   refine wpAnyD_done (by kernel_rfl) ?_ _
   show _
   have hC := hidden ((Chg.of_ext _ (XWI.out.trans (Ext.refl W).drew)).trans hC3 (fun x hx => Or.inl hx))
   have hT := hidden (show ToV w.heap.size q V V3 from fun x hx => (hT3 x hx).imp id (fun h => Nat.le_trans (XWI.out.trans (Ext.refl W).drew).size h))
   have hM3I := hidden hM3
   clear hM3 hC3 hT3 HS
   go_wp2_with fail
   refine (rstep_any w3 B q V3 X E _ hM3I.out hok2.out hEI.out).mono ?_
   intro x w5 hm5
   obtain ⟨e5, rfl⟩ := hm5.ret
   have hg5 := hidden (hm5.later hC.out hT.out)
   rw [hR.out] at hg5
   clear hm5
   go_wp2_with fail
   go_ret
   exact hg5.out
end Go.Proofs.YtgjjklajipekdaaGreat
