
import Derived.Test.YtgjjklajipekdaaGreatYl
namespace Go.Proofs.YtgjjklajipekdaaGreat
set_option maxHeartbeats 16000000
set_option maxRecDepth 100000
open Go.RowKit
set_option linter.unusedVariables false
set_option linter.unusedSimpArgs false
attribute [local go_sem ↓] Go.wp_at_zero Go.wp_at_succ
theorem frame_at {fr : List Frm} {j : Nat} (hj : j < fr.length) : fr[j]? = some (fr.getD j noF) := by
 rw [List.getD_eq_getElem?_getD, List.getElem?_eq_getElem hj]; rfl
theorem MSt.cutFrames {w : World} {B q : Nat} {V : Vs} {X : EV} {E : Env} {s : MS} (h : MSt LP w B q V X E s) {a : Option Addr} {cap n k : Nat} (hv : V.fr = .slice a n cap) (hn : s.fr.length = n) (hk : k ≤ n) :
  MSt LP (w.setCell ⟨q, 11, none⟩ (.slice a k cap)) B q { V with fr := .slice a k cap } X E { s with fr := s.fr.take k } ∧ Chg (SV q V) w (w.setCell ⟨q, 11, none⟩ (.slice a k cap)) ∧ ToV w.heap.size q V { V with fr := .slice a k cap } := by
 have hrow := h.row 3 _ rfl
 unfold Row.own at hrow
 simp only at hrow
 rw [hv, hn] at hrow
 have hc := own_cut hrow hk
 change w.ownsRow B 184 4 _ k ((s.fr.flatMap fcell).take (k * 4)) at hc
 rw [flat_take (E := fcell) (sz := 4) fcell_len] at hc
 have hl : (s.fr.take k).length = k := by rw [List.length_take]; omega
 exact h.setRow (i := 3) (j := 11) (S := []) (r' := ⟨184, 4, .slice a k cap, (s.fr.take k).length, (s.fr.take k).flatMap fcell⟩) (V' := { V with fr := .slice a k cap }) (s' := { s with fr := s.fr.take k }) rfl (Chg.refl _ _) (by simp)
  (by unfold Row.own; rw [hl]; exact hc) (fun x hx => by rw [show (⟨LP.tf, LP.fk, V.fr, s.fr.length, s.fr.flatMap LP.fc⟩ : Row).v = V.fr from rfl, hv]; left; revert hx; cases a <;> exact id) rfl h.al rfl
theorem last_split {fr : List Frm} {f : Frm} (h : fr.getLast? = some f) : fr = fr.dropLast ++ [f] := by
 cases fr with
 | nil => cases h
 | cons a l =>
  have e : (a :: l).getLast (by simp) = f := by rw [List.getLast?_eq_some_getLast (by simp)] at h; exact Option.some.inj h
  rw [← e]
  exact (List.dropLast_concat_getLast (by simp)).symm
theorem set_left {fr : List Frm} {f : Frm} (h : fr.getLast? = some f) (x : Int) : (fr.flatMap fcell).set ((fr.length - 1) * 4 + 2) (.int .i64 x) = (fr.dropLast ++ [{ f with left := x }]).flatMap fcell := by
 have hs := last_split h
 generalize fr.dropLast = A at hs ⊢
 subst hs
 have hfl : (A.flatMap fcell).length = A.length * 4 := flat_len fcell 4 fcell_len A
 rw [List.flatMap_append, List.flatMap_append, List.length_append, List.length_singleton, Nat.add_sub_cancel, ← hfl, List.set_append_right _ _ (by omega)]
 simp only [List.flatMap_cons, List.flatMap_nil, List.append_nil, Nat.add_sub_cancel_left]
 rfl
theorem m_leave : Meth 103 30 := by
 intro w B q V X E s arg l v h
 rw [exe30]
 have hll : l.length = 1 := h.ll
 obtain ⟨b, o, capl, rfl, hbq, hbl, hc0, -⟩ := h.v0 0 (by omega)
 rw [hll]
 obtain ⟨i0, hi, hz0, hz1, hz2⟩ := info_parts frame_info
 have hia := hidden hi
 have hyu : U32 (vl l 0).1 := u32_vl h.lu 0
 have hns := h.ns
 rw [exe30] at hns
 obtain ⟨y, hy⟩ := ex ((vl l 0).1)
 rw [hy] at hc0 hyu hns ⊢
 simp only [Nat.zero_mul, Nat.add_zero] at hc0
 have hrow := h.m.row 3 _ rfl
 unfold Row.own at hrow
 simp only at hrow
 have hst := h.m.row 2 _ rfl
 unfold Row.own at hst
 simp only at hst
 have c11 := h.m.cell 11 _ rfl
 have c10 := h.m.cell 10 _ rfl
 have c9 := h.m.cell 9 _ rfl
 have hqV : q ∈ SV q V := by simp [SV]
 have hbq' : b ≠ q := fun e => hbq (by rw [e]; exact hqV)
 have hp0 := h.p0
 have hp1 := h.p1
 have hP0 := h.okE.P0
 have hC0 := h.okE.C0
 obtain ⟨k, hk⟩ := Int.eq_ofNat_of_zero_le h.p0
 have hfo := hidden h.okE
 have hB := h.hb
 have h32 := h.ok.st
 obtain ⟨av, cv, hV0, hcv, hcv2, -⟩ := own_shape hrow
 obtain ⟨as', cs', hVs, hcs', -, -⟩ := own_shape hst
 rw [hV0] at hrow c11
 rw [hVs] at c10
 obtain ⟨R, hR⟩ := ex (leaveF E y s)
 rw [hR]
 rw [hR] at hns
 unfold leaveF at hR
 cases hll0 : llF s.fr s.fr.length with
 | none => rw [hll0] at hR; exact absurd hR.symm hns
 | some k0 =>
 rw [hll0] at hR
 simp only at hR
 have hnpos : 0 < s.fr.length := by
  rcases Nat.eq_zero_or_pos s.fr.length with h0 | h0
  ·rw [h0] at hll0; cases hll0
  ·exact h0
 have h8 := h.ok.fr
 have hfrv := hidden h.ok.frv
 have XW := (Ext.refl w).alloc (.cells #[.int .i64 30, .int .u32 arg] 63)
 have hX := hidden XW
 have d0 := XW.cell hc0
 have hM := hidden h.m
 rw [hk] at c9
 obtain ⟨g, rfl, hg1, hg2⟩ : ∃ g, av = some ⟨g, 0, none⟩ ∧ B ≤ g ∧ g < w.heap.size := by
  obtain ⟨a, cap, e, -, -, hg⟩ := own_shape hrow
  simp only [Value.slice.injEq, true_and] at e
  obtain ⟨rfl, rfl⟩ := e
  exact hg hnpos
 have hfc := hidden (fun (j i : Nat) (u : Value) (hj : j < s.fr.length) (hu : (fcell (s.fr.getD j noF))[i]? = some u) => XW.cell (own_cell hrow (j * 4 + i) u (flat_at (E := fcell) (m := 4) fcell_len (frame_at hj) hu)))
 obtain ⟨n, hn⟩ := ex s.fr.length
 obtain ⟨ns, hnse⟩ := ex s.st.length
 rw [hn] at hnpos c11 hcv h8 hfc hll0
 rw [hnse] at c10 h32 hR
 have d11 := XW.cell c11
 have d10 := XW.cell c10
 have hcut := fun (j : Nat) (hj : j ≤ n) => cut_own (P := Tryz.prog) (t := 104) Tryz.underlying104 Tryz.sizeOf184 n cv j (some ⟨g, 0, none⟩) (j : Int) rfl hj hcv
 replace hcut := hidden hcut
 have hw1 : IntKind.i64.wrap ((n : Int) - 1) = (n : Int) - 1 := IntWalk.i64_in _ (by omega)
 replace hll0 := hidden hll0
 replace hn := hidden hn
 replace hnse := hidden hnse
 replace hV0 := hidden hV0
 replace hVs := hidden hVs
 replace hR := hidden hR
 replace hk := hidden hk
 replace hns := hidden hns
 replace hy := hidden hy
 clear h hrow hst c11 c10 hc0 hi c9
 go_enter Tryz.func103, Tryz.ntmps103
 go_wp2_with fail
 obtain ⟨W, hW⟩ := ex (w.alloc (.cells #[.int .i64 30, .int .u32 arg] 63))
 rw [hW] at XW hX d11 d10 d0 hfc ⊢
 replace hW := hidden hW
 clear XW
 go_loopw [6] (fun kx wr => ∃ j : Nat, j < n ∧ kx = .int .i64 (j : Int) ∧ Hid (llF s.fr (j + 1) = some k0) ∧ wr = W) (fun kx _ => (intOf kx).toNat)
 case atStart => exact ⟨n - 1, by omega, by rw [show ((n - 1 : Nat) : Int) = (n : Int) - 1 by omega], hidden (by rw [show n - 1 + 1 = n by omega]; exact hll0.out), rfl⟩
 case round =>
  obtain ⟨j, hjn, rfl, hll, hwr⟩ := hrel
  subst hwr
  obtain ⟨f, hf⟩ := ex (s.fr.getD j noF)
  have hjn2 : (j : Int) < (n : Int) := by omega
  have dl : wr.cell? ⟨g, j * 4 + 3, none⟩ = some (.bool f.loop) := hfc.out j 3 _ hjn (by rw [hf]; rfl)
  have db : wr.cell? ⟨g, j * 4 + 0, none⟩ = some (.int .i64 f.base) := hfc.out j 0 _ hjn (by rw [hf]; rfl)
  rw [Nat.add_zero] at db
  have hfb := hfrv.out f (by rw [← hf]; exact getD_mem (by rw [hn.out]; exact hjn))
  have hle := hll.out
  unfold llF at hle
  rw [hf] at hle
  obtain ⟨lp, hlp⟩ := ex f.loop
  rw [hlp] at dl hle
  cases lp
  ·rw [if_neg (by decide)] at hle
   have hj0 : 0 < j := by
    rcases Nat.eq_zero_or_pos j with h0 | h0
    ·rw [h0] at hle; cases hle
    ·exact h0
   have hjw : IntKind.i64.wrap ((j : Int) - 1) = (j : Int) - 1 := IntWalk.i64_in _ (by omega)
   replace hf := hidden hf
   replace hlp := hidden hlp
   replace hle := hidden hle
   clear db hfb
   go_wp2_with fail
   go_roundw
   case rel => exact ⟨j - 1, by omega, by rw [show ((j - 1 : Nat) : Int) = (j : Int) - 1 by omega], hidden (by rw [show j - 1 + 1 = j by omega]; exact hle.out), trivial⟩
   case measure => simp [intOf]; omega
  ·rw [if_pos rfl] at hle
   obtain rfl : j = k0 := Option.some.inj hle
   obtain ⟨bs, hbs⟩ := ex f.base
   have hR2 := hR.out
   rw [hf, hbs] at hR2
   rw [hbs] at db hfb
   have hb0 := hfb.1
   have hb1 := hfb.2.1
   replace hf := hidden hf
   replace hlp := hidden hlp
   replace hbs := hidden hbs
   clear hfb hle
   by_cases heq : (ns : Int) = bs
   ·rw [if_neg (by omega)] at hR2
    have hdec : decide ((ns : Int) = bs) = true := decide_eq_true heq
    have heqb : ((ns : Int) == bs) = true := by simp; exact heq
    clear hR
    have hR := hidden hR2
    replace heq := hidden heq
    clear hR2
    go_wp2_with fail
    refine wp_region_held_drew (S := fun w' => w'.cell? ⟨q, 10, none⟩ = some (.slice as' ns cs') ∧ w'.cell? ⟨q, 11, none⟩ = some (.slice (some ⟨g, 0, none⟩) n cv) ∧ w'.cell? ⟨g, j * 4, none⟩ = some (.int .i64 bs)) (by kernel_rfl) ⟨d10, d11, db⟩ (fun HS => ?_)
    refine tkh 0 (.pointer (some ⟨q, 0, none⟩)) HS ?_; try simp only [sx]
    refine tkh 1 (.pointer (some ⟨q, 0, none⟩)) HS ?_; try simp only [sx]
    refine tkh 2 (.pointer (some ⟨q, 10, none⟩)) HS ?_; try simp only [sx]
    refine tkh 3 (.slice as' ns cs') HS ?_; try simp only [sx]
    refine tkh 4 (.int .i64 (ns : Int)) HS ?_; try simp only [sx]
    refine tkh 5 (.pointer (some ⟨q, 0, none⟩)) HS ?_; try simp only [sx]
    refine tkh 6 (.pointer (some ⟨q, 0, none⟩)) HS ?_; try simp only [sx]
    refine tkh 7 (.pointer (some ⟨q, 11, none⟩)) HS ?_; try simp only [sx]
    refine tkh 8 (.slice (some ⟨g, 0, none⟩) n cv) HS ?_; try simp only [sx]
    refine tkh 9 (.int .i64 (j : Int)) HS ?_; try simp only [sx]
    refine tkh 10 (.pointer (some ⟨g, j * 4, none⟩)) HS ?_; try simp only [sx]
    refine tkh 11 (.pointer (some ⟨g, j * 4, none⟩)) HS ?_; try simp only [sx]
    refine tkh 12 (.int .i64 bs) HS ?_; try simp only [sx]
    refine tkh 13 (.bool true) HS ?_; try simp only [sx]
    refine callHP 14 70 #[.bool true, .int .i64 14] rfl (by kernel_rfl) (by rfl) (by go_simp) (idem_true 14 _) ?_
    rintro x w2 ⟨rfl, hw2⟩
    rw [hw2]
    clear hw2
    refine Or.inl ⟨_, rfl, HS, ?_⟩
    refine wpAnyH_done (by kernel_rfl) ?_ _
    show _
    clear dl db HS
    have d00 : wr.drew.cell? ⟨b, o, none⟩ = some (.int .u32 y) := d0
    have hR3 := hR.out
    by_cases hy0 : y = 0
    ·subst hy0
     rw [if_pos rfl] at hR3
     clear hR
     have hR := hidden hR3
     clear hR3
     go_wp2_with fail
     go_end0
     show MP _ _ _ _ _ _ R _ _
     rw [← hR.out]
     exact ⟨rfl, V, hM.out.ext hX.out.drew, Chg.of_ext _ hX.out.drew, ToV.refl _ _ _⟩
    ·rw [if_neg hy0] at hR3
     have hq0 : (y != 0) = true := by simp; exact hy0
     clear hR
     cases ht : toF E s.pc with
     | none => rw [ht] at hR3; exact absurd hR3.symm hns.out
     | some t =>
     rw [ht] at hR3
     simp only at hR3
     have hR := hidden hR3
     obtain ⟨-, t2, t3, t4⟩ := toF_some ht
     have hX2 := hidden hX.out.drew
     have m1 := hM.out.ext hX2.out
     obtain ⟨bP, oP, cP, hvP, hcP, -, -, hcp⟩ := m1.env.part_at (k := k) (by have := hk.out; omega)
     have k5 := m1.cell 5 _ rfl
     have k9 := m1.cell 9 _ rfl
     have f9 := m1.blk.frozen 9
     rw [hvP] at k5
     change wr.drew.cell? ⟨q, 9, none⟩ = some (.int .i64 s.pc) at k9
     rw [hk.out] at k9 t3
     rw [Int.toNat_natCast] at t3
     rw [t3] at hcp
     obtain ⟨nP, hnP⟩ := ex E.P.length
     rw [hnP] at k5 hcP t2 hP0
     have kl : (k : Int) < (nP : Int) := by have := hk.out; omega
     obtain ⟨W2, hW2⟩ := ex wr.drew
     have d11b : wr.drew.cell? ⟨q, 11, none⟩ = some (.slice (some ⟨g, 0, none⟩) n cv) := d11
     rw [hW2] at hX2 m1 k5 k9 f9 hcp d00 d11b ⊢
     obtain ⟨n1, n2⟩ := (m1.ext (Ext.refl W2).drew).cellq 9 (.int .i64 (t : Int)) (s' := { s with pc := (t : Int) }) rfl rfl rfl
     obtain ⟨p1, p2, p3⟩ := n1.cutFrames (n := n) (k := j) (by rw [hV0.out, hn.out]) hn.out (by omega)
     have f11 := m1.blk.frozen 11
     replace n2 := hidden n2
     replace p1 := hidden p1
     replace p2 := hidden p2
     replace p3 := hidden p3
     have hcj := hcut.out j (by omega)
     replace hnP := hidden hnP
     replace hvP := hidden hvP
     replace t3 := hidden t3
     replace ht := hidden ht
     replace hW2 := hidden hW2
     clear m1 hP0 n1 d0 d11 d10 hR3 hy0
     go_wp2_with fail
     go_still_tail 13, (by kernel_rfl)
     change wpList _ _ _ _ _ W2.drew
     go_wp2_with fail
     go_end0
     show MP _ _ _ _ _ _ R _ _
     rw [← hR.out]
     refine ⟨rfl, _, p1.out, ((Chg.of_ext _ hX2.out.drew).trans n2.out (fun x hx => Or.inl hx)).trans p2.out (fun x hx => Or.inl hx), fun x hx => (p3.out x hx).imp id (fun h => Nat.le_trans ?_ h)⟩
     have e1 := hX2.out.drew.size
     have e2 := n2.out.size
     exact Nat.le_trans e1 e2
   ·rw [if_pos heq] at hR2
    have hdec : decide ((ns : Int) = bs) = false := decide_eq_false heq
    have heqb : ((ns : Int) == bs) = false := by simp; exact heq
    clear hR heq
    have hR := hidden hR2
    clear hR2
    go_wp2_with fail
    refine wp_region_held_drew (S := fun w' => w'.cell? ⟨q, 10, none⟩ = some (.slice as' ns cs') ∧ w'.cell? ⟨q, 11, none⟩ = some (.slice (some ⟨g, 0, none⟩) n cv) ∧ w'.cell? ⟨g, j * 4, none⟩ = some (.int .i64 bs)) (by kernel_rfl) ⟨d10, d11, db⟩ (fun HS => ?_)
    refine tkh 0 (.pointer (some ⟨q, 0, none⟩)) HS ?_; try simp only [sx]
    refine tkh 1 (.pointer (some ⟨q, 0, none⟩)) HS ?_; try simp only [sx]
    refine tkh 2 (.pointer (some ⟨q, 10, none⟩)) HS ?_; try simp only [sx]
    refine tkh 3 (.slice as' ns cs') HS ?_; try simp only [sx]
    refine tkh 4 (.int .i64 (ns : Int)) HS ?_; try simp only [sx]
    refine tkh 5 (.pointer (some ⟨q, 0, none⟩)) HS ?_; try simp only [sx]
    refine tkh 6 (.pointer (some ⟨q, 0, none⟩)) HS ?_; try simp only [sx]
    refine tkh 7 (.pointer (some ⟨q, 11, none⟩)) HS ?_; try simp only [sx]
    refine tkh 8 (.slice (some ⟨g, 0, none⟩) n cv) HS ?_; try simp only [sx]
    refine tkh 9 (.int .i64 (j : Int)) HS ?_; try simp only [sx]
    refine tkh 10 (.pointer (some ⟨g, j * 4, none⟩)) HS ?_; try simp only [sx]
    refine tkh 11 (.pointer (some ⟨g, j * 4, none⟩)) HS ?_; try simp only [sx]
    refine tkh 12 (.int .i64 bs) HS ?_; try simp only [sx]
    refine tkh 13 (.bool false) HS ?_; try simp only [sx]
    refine callHP 14 70 #[.bool false, .int .i64 14] rfl (by kernel_rfl) (by rfl) (by go_simp) (idem_false 14 _) ?_
    rintro x w2 ⟨rfl, hw2⟩
    rw [hw2]
    clear hw2
    refine Or.inr ⟨_, rfl, rfl, ?_⟩
    show MP _ _ _ _ _ _ R _ _
    rw [← hR.out]
    exact ⟨rfl, Chg.of_ext _ hX.out.drew⟩
theorem m_end : Meth 104 31 := by
 intro w B q V X E s arg l v h
 rw [exe31]
 have hns := h.ns
 rw [exe31] at hns
 have hst := h.m.row 2 _ rfl
 unfold Row.own at hst
 simp only at hst
 have c10 := h.m.cell 10 _ rfl
 obtain ⟨k, hk⟩ := Int.eq_ofNat_of_zero_le h.p0
 have hp1 := h.p1
 have hP0 := h.okE.P0
 have hC0 := h.okE.C0
 have h32 := h.ok.st
 obtain ⟨as', cs', hVs, hcs', -, -⟩ := own_shape hst
 rw [hVs] at c10
 have hbs := fun W (c : Ext w W) => ibase_any W B q V X E s (h.m.ext c) h.ok
 obtain ⟨R, hR⟩ := ex (endF E s)
 rw [hR]
 rw [hR] at hns
 unfold endF at hR
 cases hla : s.fr.getLast? with
 | none => rw [hla] at hR; exact absurd hR.symm hns
 | some f =>
 rw [hla] at hR
 simp only at hR
 have hbe : baseF s.fr = f.base := by unfold baseF; rw [hla]
 rw [hbe] at hbs
 obtain ⟨fb1, fb2, fb3, fb4, fb5, fb6, fb7⟩ := h.ok.frv f (last_mem hla)
 obtain ⟨bs, hbse⟩ := ex f.base
 rw [hbse] at hbs hR fb1 fb2
 obtain ⟨ns, hnse⟩ := ex s.st.length
 rw [hnse] at c10 h32 hR
 have hM := hidden h.m
 have hrow := h.m.row 3 _ rfl
 unfold Row.own at hrow
 simp only at hrow
 have h8 := h.ok.fr
 have hB := h.hb
 have hokS := hidden h.ok
 have hokE := hidden h.okE
 have XW := (Ext.refl w).alloc (.cells #[.int .i64 31, .int .u32 arg] 63)
 have hX := hidden XW
 have d10 := XW.cell c10
 replace hbs := hidden hbs
 replace hnse := hidden hnse
 replace hbse := hidden hbse
 replace hVs := hidden hVs
 replace hk := hidden hk
 replace hns := hidden hns
 replace hbe := hidden hbe
 clear h hst c10
 by_cases heq : (ns : Int) = bs
 ·rw [if_neg (by omega)] at hR
  have hdec : decide ((ns : Int) = bs) = true := decide_eq_true heq
  have heqb : ((ns : Int) == bs) = true := by simp; exact heq
  obtain ⟨av, cv, hV0, hcv, hcv2, hgv⟩ := own_shape hrow
  have hpos : 0 < s.fr.length := by
   rcases hn : s.fr with _ | ⟨x, l⟩
   ·rw [hn] at hla; cases hla
   ·simp
  obtain ⟨g, rfl, hg1, hg2⟩ := hgv hpos
  rw [hV0] at hrow
  have hsl := hidden (fun x => set_left hla x)
  have hlst := last_at hla
  obtain ⟨m, hm⟩ : ∃ m, s.fr.length = m + 1 := ⟨s.fr.length - 1, by omega⟩
  rw [hm, Nat.add_sub_cancel] at hlst
  have hfc := hidden (fun (W : World) (c : Ext w W) (i : Nat) (u : Value) (hu : (fcell f)[i]? = some u) => c.cell (own_cell hrow (m * 4 + i) u (flat_at (E := fcell) (m := 4) fcell_len hlst hu)))
  have hff := hidden (fun (W : World) (c : Ext w W) (i : Nat) (u : Value) (hu : (fcell f)[i]? = some u) => c.frozen (own_cell hrow (m * 4 + i) u (flat_at (E := fcell) (m := 4) fcell_len hlst hu)) (arow_frozen hrow))
  rw [hm] at hcv h8
  have hcut := cut_own (P := Tryz.prog) (t := 104) Tryz.underlying104 Tryz.sizeOf184 (m + 1) cv m (some ⟨g, 0, none⟩) (m : Int) rfl (by omega) hcv
  have hw1 : IntKind.i64.wrap (((m + 1 : Nat) : Int) - 1) = (m : Int) := by rw [IntWalk.i64_in _ (by omega)]; omega
  have hne : ((m + 1 : Nat) : Int) = (m : Int) + 1 := by omega
  have hw3 : IntKind.i64.wrap (m : Int) = (m : Int) := IntWalk.i64_in _ (by omega)
  have hw2 : IntKind.i64.wrap ((m : Int) + 1 - 1) = (m : Int) := by rw [IntWalk.i64_in _ (by omega)]; omega
  replace hcut := hidden hcut
  replace hla := hidden hla
  replace hlst := hidden hlst
  replace hm := hidden hm
  replace hV0 := hidden hV0
  replace hrow := hidden hrow
  clear heq fb5 hgv
  obtain ⟨lp, hlp⟩ := ex f.loop
  obtain ⟨lf, hlf⟩ := ex f.left
  obtain ⟨bg, hbg⟩ := ex f.beg
  rw [hlp, hlf, hbg] at hR
  rw [hlf] at fb6 fb7
  rw [hbg] at fb3 fb4
  by_cases hagain : lp = true ∧ 1 < lf
  ·rw [if_pos hagain] at hR
   obtain ⟨rfl, hl1⟩ := hagain
   have hlw : IntKind.i64.wrap (lf - 1) = lf - 1 := IntWalk.i64_in _ (by omega)
   have hl1d : decide (1 < lf) = true := decide_eq_true hl1
   have hok2 : OkS E { s with fr := s.fr.dropLast ++ [{ f with left := lf - 1 }], pc := bg } := by
    refine hokS.out.withFr _ _ ?_ ?_
    ·have := hm.out; have := hokS.out.fr; simp; omega
    ·intro x hx
     rcases List.mem_append.1 hx with hx | hx
     ·exact hokS.out.frv x (List.dropLast_subset _ hx)
     ·simp only [List.mem_singleton] at hx
      subst hx
      have hf := hokS.out.frv f (last_mem hla.out)
      exact ⟨hf.1, hf.2.1, hf.2.2.1, hf.2.2.2.1, hf.2.2.2.2.1, by show 0 ≤ lf - 1; omega, by show lf - 1 ≤ _; omega⟩
   replace hok2 := hidden hok2
   replace hR := hidden hR
   replace hlp := hidden hlp
   replace hlf := hidden hlf
   replace hbg := hidden hbg
   go_enter Tryz.func104, Tryz.ntmps104
   go_wp2_with fail
   obtain ⟨W, hW⟩ := ex (w.alloc (.cells #[.int .i64 31, .int .u32 arg] 63))
   rw [hW] at XW hX d10 ⊢
   replace hW := hidden hW
   clear XW
   refine wp_region_held_drew (S := fun w' => w'.cell? ⟨q, 10, none⟩ = some (.slice as' ns cs')) (by kernel_rfl) d10 (fun HS => ?_)
   refine tkh 0 (.pointer (some ⟨q, 0, none⟩)) HS ?_; try simp only [sx]
   refine tkh 1 (.pointer (some ⟨q, 0, none⟩)) HS ?_; try simp only [sx]
   refine tkh 2 (.pointer (some ⟨q, 10, none⟩)) HS ?_; try simp only [sx]
   refine tkh 3 (.slice as' ns cs') HS ?_; try simp only [sx]
   refine tkh 4 (.int .i64 (ns : Int)) HS ?_; try simp only [sx]
   refine tkh 5 (.pointer (some ⟨q, 0, none⟩)) HS ?_; try simp only [sx]
   refine callH 6 109 #[.pointer (some ⟨q, 0, none⟩)] rfl rfl (by kernel_rfl) (by rfl) (by go_simp) (hbs.out W.drew hX.out.drew) ?_
   rintro x w1 ⟨rfl, hX1⟩
   have hX2 := hidden (hX.out.drew.trans hX1)
   have e10 : w1.cell? ⟨q, 10, none⟩ = some (.slice as' ns cs') := hX1.cell d10
   clear hX1
   refine ⟨_, rfl, e10, ?_⟩; try simp only [sx]
   refine tkh 7 (.bool true) e10 ?_; try simp only [sx]
   refine callHP 8 70 #[.bool true, .int .i64 14] rfl (by kernel_rfl) (by rfl) (by go_simp) (idem_true 14 _) ?_
   rintro x w2 ⟨rfl, hw2⟩
   rw [hw2]
   clear hw2
   refine Or.inl ⟨_, rfl, e10, ?_⟩
   refine wpAnyH_done (by kernel_rfl) ?_ _
   show _
   have m1 := hM.out.ext hX2.out
   have k11 := m1.cell 11 _ rfl
   change w1.cell? ⟨q, 11, none⟩ = some V.fr at k11
   rw [hV0.out, hm.out] at k11
   have l3 := hfc.out w1 hX2.out 3 (.bool true) (by rw [← hlp.out]; rfl)
   have l2 := hfc.out w1 hX2.out 2 (.int .i64 lf) (by rw [← hlf.out]; rfl)
   have l1 := hfc.out w1 hX2.out 1 (.int .i64 bg) (by rw [← hbg.out]; unfold fcell; rw [hlp.out]; rfl)
   have lfz := hff.out w1 hX2.out 2 (.int .i64 lf) (by rw [← hlf.out]; rfl)
   have f9 := m1.blk.frozen 9
   have k9 := m1.cell 9 _ rfl
   have hgV : g ∈ SV q V := by simp [SV, hV0.out, Value.ownBlock]
   have hgq : g ≠ q := by
    have hnd := hM.out.rows.nodup
    intro e
    rw [blks_rows hM.out.al] at hnd
    unfold SV at hnd
    exact (List.nodup_cons.1 hnd).1 (by simp [hV0.out, Value.ownBlock, e])
   have hqg : q ≠ g := fun e => hgq e.symm
   have HH := hidden (fun (nq : Nat) => by
    have m1' := m1.ext ((Ext.refl w1).drewN nq)
    obtain ⟨n1, n2⟩ := m1'.cellr (i := 3) (g := g) (cap := cv) (n := s.fr.length) (sz := 4) (t := 184) (cs := s.fr.flatMap fcell) (s' := { s with fr := s.fr.dropLast ++ [{ f with left := lf - 1 }] }) (by rw [← hV0.out]; rfl) (m * 4 + 2) (.int .i64 (lf - 1))
     (by
      have e1 := hsl.out (lf - 1)
      rw [hm.out, Nat.add_sub_cancel] at e1
      rw [e1]
      have e2 : (s.fr.dropLast ++ [{ f with left := lf - 1 }]).length = s.fr.length := by have := hm.out; simp; omega
      unfold rowsG
      simp only [e2]
      rw [hV0.out]
      rfl) rfl rfl
    obtain ⟨p1, p2⟩ := n1.cellq 9 (.int .i64 bg) (s' := { s with fr := s.fr.dropLast ++ [{ f with left := lf - 1 }], pc := bg }) rfl rfl rfl
    exact (⟨p1, ((Chg.refl _ w1).drewN nq).trans (n2.trans p2 (fun x hx => Or.inl hx)) (fun x hx => Or.inl hx)⟩ : MSt LP (((w1.drewN nq).setCell ⟨g, m * 4 + 2, none⟩ (.int .i64 (lf - 1))).setCell ⟨q, 9, none⟩ (.int .i64 bg)) B q V X E { s with fr := s.fr.dropLast ++ [{ f with left := lf - 1 }], pc := bg } ∧ Chg (SV q V) w1 (((w1.drewN nq).setCell ⟨g, m * 4 + 2, none⟩ (.int .i64 (lf - 1))).setCell ⟨q, 9, none⟩ (.int .i64 bg))))
   clear m1 d10 e10
   go_wp2_with fail
   refine wp_region_quiet_lit (by kernel_rfl) (by kernel_rfl) ?_
   repeat (any_goals (first | go_big_quiet_step (fail) | quiet_step (fail)))
   refine wpQuiet_nil ?_
   intro _ hw'
   obtain ⟨nq, hw''⟩ := hw'
   subst hw''
   go_wp2_with fail
   obtain ⟨p1, p2⟩ := HH.out nq
   obtain ⟨W5, hW5⟩ := ex (((w1.drewN nq).setCell ⟨g, m * 4 + 2, none⟩ (.int .i64 (lf - 1))).setCell ⟨q, 9, none⟩ (.int .i64 bg))
   rw [hW5] at p1 p2 ⊢
   have hstep := istep_any W5 B q _ X E _ p1 hok2.out hokE.out
   rw [hbse.out, hlp.out, hbg.out, hR.out] at hstep
   replace hstep := hidden hstep
   have hc5 := hidden ((Chg.of_ext (SV q V) hX2.out).trans p2 (fun x hx => Or.inl hx))
   replace hW5 := hidden hW5
   clear p1 p2 HH k11 l3 l2 l1 lfz f9 k9
   refine hstep.out.mono ?_
   intro x w6 hmm
   have hm' : MP w B q V X E R x w6 := by
    cases R with
    | stuck => exact hmm
    | err e => exact ⟨hmm.1, hc5.out.trans hmm.2 (fun x hx => Or.inl hx)⟩
    | go s' =>
     obtain ⟨h1, V', h2, h3, h4⟩ := hmm
     exact ⟨h1, V', h2, hc5.out.trans h3 (fun x hx => Or.inl hx), fun x hx => (h4 x hx).imp id (fun h => Nat.le_trans hc5.out.size h)⟩
   clear hmm
   cases R with
   | stuck => exact hm'.elim
   | err e =>
    obtain ⟨rfl, hmm⟩ := hm'
    replace hmm := hidden hmm
    unfold failI
    go_wp2_with fail
    exact ⟨rfl, rfl, hmm.out⟩
   | go s' =>
    obtain ⟨rfl, hmm⟩ := hm'
    replace hmm := hidden hmm
    go_wp2_with fail
    go_end0
    exact ⟨rfl, hmm.out⟩
  ·rw [if_neg hagain] at hR
   replace hR := hidden hR
   have hRt : Hid (R = .go { s with fr := s.fr.take m }) := by
    show _ = _
    rw [← hR.out]
    congr 2
    rw [List.dropLast_eq_take, hm.out, Nat.add_sub_cancel]
   have hcase : lp = false ∨ (lp = true ∧ decide (1 < lf) = false) := by
    cases lp
    ·exact Or.inl rfl
    ·exact Or.inr ⟨rfl, decide_eq_false (fun h => hagain ⟨rfl, h⟩)⟩
   replace hlp := hidden hlp
   replace hlf := hidden hlf
   replace hbg := hidden hbg
   clear hagain
   go_enter Tryz.func104, Tryz.ntmps104
   go_wp2_with fail
   obtain ⟨W, hW⟩ := ex (w.alloc (.cells #[.int .i64 31, .int .u32 arg] 63))
   rw [hW] at XW hX d10 ⊢
   replace hW := hidden hW
   clear XW
   refine wp_region_held_drew (S := fun w' => w'.cell? ⟨q, 10, none⟩ = some (.slice as' ns cs')) (by kernel_rfl) d10 (fun HS => ?_)
   refine tkh 0 (.pointer (some ⟨q, 0, none⟩)) HS ?_; try simp only [sx]
   refine tkh 1 (.pointer (some ⟨q, 0, none⟩)) HS ?_; try simp only [sx]
   refine tkh 2 (.pointer (some ⟨q, 10, none⟩)) HS ?_; try simp only [sx]
   refine tkh 3 (.slice as' ns cs') HS ?_; try simp only [sx]
   refine tkh 4 (.int .i64 (ns : Int)) HS ?_; try simp only [sx]
   refine tkh 5 (.pointer (some ⟨q, 0, none⟩)) HS ?_; try simp only [sx]
   refine callH 6 109 #[.pointer (some ⟨q, 0, none⟩)] rfl rfl (by kernel_rfl) (by rfl) (by go_simp) (hbs.out W.drew hX.out.drew) ?_
   rintro x w1 ⟨rfl, hX1⟩
   have hX2 := hidden (hX.out.drew.trans hX1)
   have e10 : w1.cell? ⟨q, 10, none⟩ = some (.slice as' ns cs') := hX1.cell d10
   clear hX1
   refine ⟨_, rfl, e10, ?_⟩; try simp only [sx]
   refine tkh 7 (.bool true) e10 ?_; try simp only [sx]
   refine callHP 8 70 #[.bool true, .int .i64 14] rfl (by kernel_rfl) (by rfl) (by go_simp) (idem_true 14 _) ?_
   rintro x w2 ⟨rfl, hw2⟩
   rw [hw2]
   clear hw2
   refine Or.inl ⟨_, rfl, e10, ?_⟩
   refine wpAnyH_done (by kernel_rfl) ?_ _
   show _
   have m1 := hM.out.ext hX2.out
   have k11 := m1.cell 11 _ rfl
   have f11 := m1.blk.frozen 11
   change w1.cell? ⟨q, 11, none⟩ = some V.fr at k11
   rw [hV0.out, hm.out] at k11
   have l3 := hfc.out w1 hX2.out 3 (.bool lp) (by rw [← hlp.out]; rfl)
   have l2 := hfc.out w1 hX2.out 2 (.int .i64 lf) (by rw [← hlf.out]; rfl)
   have HH := hidden (fun (W' : World) (c : Ext w1 W') => (m1.ext c).cutFrames (n := m + 1) (k := m) (by rw [hV0.out, hm.out]) hm.out (by omega))
   have hcj := hcut.out
   clear m1 d10 e10
   rcases hcase with rfl | ⟨rfl, hl1d⟩
   all_goals
    go_wp2_with fail
    refine wp_region_quiet_lit (by kernel_rfl) (by kernel_rfl) ?_
    repeat (any_goals (first | go_big_quiet_step (fail) | quiet_step (fail)))
    refine wpQuiet_nil ?_
    intro _ hw'
    obtain ⟨nq, hw''⟩ := hw'
    subst hw''
    go_wp2_with fail
    have hXn := (Ext.refl w1).drewN nq
    have k11b := hXn.cell k11
    have f11b := hXn.frozen k11 f11
    obtain ⟨W2, hW2⟩ := ex (w1.drewN nq)
    rw [hW2] at hXn k11b f11b ⊢
    replace hW2 := hidden hW2
    obtain ⟨p1, p2, p3⟩ := HH.out W2.drew hXn.drew
    have hsz := hXn.drew.size
    have hXx := hidden (hX2.out.trans hXn.drew)
    clear k11 f11 l3 l2 hXn
    go_still_tail 14, (by kernel_rfl)
    change wpList _ _ _ _ _ W2.drew
    replace p1 := hidden p1
    replace p2 := hidden p2
    replace p3 := hidden p3
    have hsz2 := hX2.out.size
    go_wp2_with fail
    go_end0
    show MP _ _ _ _ _ _ R _ _
    rw [hRt.out]
    exact ⟨rfl, _, p1.out, (Chg.of_ext _ hXx.out).trans p2.out (fun x hx => Or.inl hx), fun x hx => (p3.out x hx).imp id (fun h => Nat.le_trans (Nat.le_trans hsz2 hsz) h)⟩
 ·rw [if_pos heq] at hR
  have hdec : decide ((ns : Int) = bs) = false := decide_eq_false heq
  have heqb : ((ns : Int) == bs) = false := by simp; exact heq
  replace hR := hidden hR
  replace hla := hidden hla
  clear heq fb5 hrow
  go_enter Tryz.func104, Tryz.ntmps104
  go_wp2_with fail
  obtain ⟨W, hW⟩ := ex (w.alloc (.cells #[.int .i64 31, .int .u32 arg] 63))
  rw [hW] at XW hX d10 ⊢
  replace hW := hidden hW
  clear XW
  refine wp_region_held_drew (S := fun w' => w'.cell? ⟨q, 10, none⟩ = some (.slice as' ns cs')) (by kernel_rfl) d10 (fun HS => ?_)
  refine tkh 0 (.pointer (some ⟨q, 0, none⟩)) HS ?_; try simp only [sx]
  refine tkh 1 (.pointer (some ⟨q, 0, none⟩)) HS ?_; try simp only [sx]
  refine tkh 2 (.pointer (some ⟨q, 10, none⟩)) HS ?_; try simp only [sx]
  refine tkh 3 (.slice as' ns cs') HS ?_; try simp only [sx]
  refine tkh 4 (.int .i64 (ns : Int)) HS ?_; try simp only [sx]
  refine tkh 5 (.pointer (some ⟨q, 0, none⟩)) HS ?_; try simp only [sx]
  refine callH 6 109 #[.pointer (some ⟨q, 0, none⟩)] rfl rfl (by kernel_rfl) (by rfl) (by go_simp) (hbs.out W.drew hX.out.drew) ?_
  rintro x w1 ⟨rfl, hX1⟩
  have hX2 := hidden (hX.out.drew.trans hX1)
  have e10 : w1.cell? ⟨q, 10, none⟩ = some (.slice as' ns cs') := hX1.cell d10
  clear hX1
  refine ⟨_, rfl, e10, ?_⟩; try simp only [sx]
  refine tkh 7 (.bool false) e10 ?_; try simp only [sx]
  refine callHP 8 70 #[.bool false, .int .i64 14] rfl (by kernel_rfl) (by rfl) (by go_simp) (idem_false 14 _) ?_
  rintro x w2 ⟨rfl, hw2⟩
  rw [hw2]
  clear hw2
  refine Or.inr ⟨_, rfl, rfl, ?_⟩
  show MP _ _ _ _ _ _ R _ _
  rw [← hR.out]
  exact ⟨rfl, Chg.of_ext _ hX2.out⟩
end Go.Proofs.YtgjjklajipekdaaGreat
