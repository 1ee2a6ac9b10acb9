
import Derived.Test.YtgjjklajipekdaaGreatYk
import Derived.Test.YtgjjklajipekdaaGreatYc
namespace Go.Proofs.YtgjjklajipekdaaGreat
set_option maxHeartbeats 16000000
set_option maxRecDepth 100000
open Go.RowKit
set_option linter.unusedVariables false
set_option linter.unusedSimpArgs false
attribute [local go_sem ↓] Go.wp_at_zero Go.wp_at_succ
theorem MSt.pushFrame {w W w1 : World} {B q : Nat} {V : Vs} {X : EV} {E : Env} {s : MS} (h : MSt LP w B q V X E s) (cX : Ext w W) (f : Frm) (v' : Value) (g1 : w1.ownsRow B 184 4 v' (s.fr.length + 1) (s.fr.flatMap fcell ++ fcell f)) (g2 : W.grownBy w1 V.fr.ownBlock) (g3 : v'.ownBlock = V.fr.ownBlock ∨ v'.ownBlock = some W.heap.size) :
  MSt LP (w1.setCell ⟨q, 11, none⟩ v') B q { V with fr := v' } X E { s with fr := s.fr ++ [f] } ∧ Chg (SV q V) w (w1.setCell ⟨q, 11, none⟩ v') ∧ ToV w.heap.size q V { V with fr := v' } ∧ w1.cell? ⟨q, 11, none⟩ = some V.fr ∧ w1.frozen? ⟨q, 11, none⟩ = false ∧
   (∀ b o u, b ∉ SV q V → w.cell? ⟨b, o, none⟩ = some u → w1.cell? ⟨b, o, none⟩ = some u) ∧ (∀ i u, w.cell? ⟨q, i, none⟩ = some u → w1.cell? ⟨q, i, none⟩ = some u) := by
 have hMW := h.ext cX
 have c11 := h.cell 11 _ rfl
 have f11 := h.blk.frozen 11
 have c : Chg V.fr.ownBlock.toList W w1 := (Chg.refl _ W).grown g2 (fun k hk => Or.inl (by simp [hk]))
 have hq : q ∉ V.fr.ownBlock.toList := fun hm => (List.nodup_cons.1 h.rows.nodup).1 (mem_blks.2 ⟨_, List.mem_of_getElem? (i := 3) rfl, by simpa using hm⟩)
 obtain ⟨m1, m2, m3⟩ := hMW.setRow (i := 3) (j := 11) (r' := ⟨184, 4, v', (s.fr ++ [f]).length, (s.fr ++ [f]).flatMap fcell⟩) (V' := { V with fr := v' }) (s' := { s with fr := s.fr ++ [f] }) rfl c (fun x hx => Or.inl (by simpa using hx))
  (by unfold Row.own; simp only [List.length_append, List.flatMap_append, List.flatMap_cons, List.flatMap_nil, List.append_nil]; exact g1) (fun x hx => by rcases g3 with e | e <;> rw [e] at hx; exact Or.inl hx; simp only [Option.some.injEq] at hx; exact Or.inr (by omega)) rfl hMW.al rfl
 refine ⟨m1, (Chg.of_ext _ cX).trans m2 (fun x hx => Or.inl hx), fun x hx => (m3 x hx).imp id (fun h => Nat.le_trans cX.size h), c.cell hq (cX.cell c11), c.frozen hq (cX.cell c11) (cX.frozen c11 f11), fun b o u hb hc => c.cell (fun hm => hb ?_) (cX.cell hc), fun i u hc => c.cell hq (cX.cell hc)⟩
 simp only [Option.mem_toList] at hm
 simp [SV, hm]
theorem fcell_len (f : Frm) : (fcell f).length = 4 := rfl
theorem m_choose : Meth 100 27 := by
 intro w B q V X E s arg l v h
 rw [exe27]
 have hll : l.length = 1 := h.ll
 obtain ⟨b, o, capl, rfl, hbq, hbl, hc0, -⟩ := h.v0 0 (by omega)
 rw [hll]
 obtain ⟨i0, hi, hz0, hz1, hz2⟩ := info_parts frame_info
 have hia := hidden hi
 have hyu : U32 (vl l 0).1 := u32_vl h.lu 0
 have hns := h.ns
 rw [exe27] at hns
 obtain ⟨y, hy⟩ := ex ((vl l 0).1)
 rw [hy] at hc0 hyu hns ⊢
 simp only [Nat.zero_mul, Nat.add_zero] at hc0
 have hrow := h.m.row 3 _ rfl
 unfold Row.own at hrow
 simp only at hrow
 have hst := h.m.row 2 _ rfl
 unfold Row.own at hst
 simp only at hst
 have c11 := h.m.cell 11 _ rfl
 have c10 := h.m.cell 10 _ rfl
 have c9 := h.m.cell 9 _ rfl
 have hqV : q ∈ SV q V := by simp [SV]
 have hbq' : b ≠ q := fun e => hbq (by rw [e]; exact hqV)
 have hp0 := h.p0
 have hp1 := h.p1
 have hP0 := h.okE.P0
 have hC0 := h.okE.C0
 obtain ⟨k, hk⟩ := Int.eq_ofNat_of_zero_le h.p0
 have hfo := hidden h.okE
 have hB := h.hb
 have h32 := h.ok.st
 obtain ⟨av, cv, hV0, hcv, hcv2, -⟩ := own_shape hrow
 obtain ⟨as', cs', hVs, hcs', -, -⟩ := own_shape hst
 rw [hV0] at hrow c11
 rw [hVs] at c10
 have h8 : ¬ 8 ≤ s.fr.length := fun h8 => hns (by unfold chooseF; rw [if_pos h8])
 obtain ⟨R, hR⟩ := ex (chooseF E y s)
 rw [hR]
 rw [hR] at hns
 unfold chooseF at hR
 rw [if_neg h8] at hR
 obtain ⟨n, hn⟩ := ex s.fr.length
 obtain ⟨ns, hnse⟩ := ex s.st.length
 obtain ⟨cs, hcs⟩ := ex (s.fr.flatMap LP.fc)
 have XW := (Ext.refl w).alloc (.cells #[.int .i64 27, .int .u32 arg] 63)
 have hX := hidden XW
 have hset := fun (v' : Value) (w1 : World) (g1 : w1.ownsRow B 184 4 v' (s.fr.length + 1) (s.fr.flatMap fcell ++ fcell ⟨s.st.length, s.pc, 0, false⟩)) => h.m.pushFrame ((XW.alloc (.cells #[.int .i64 (ns : Int), .int .i64 0, .int .i64 0, .bool false] 184)).drew) ⟨s.st.length, s.pc, 0, false⟩ v' g1
 rw [hV0] at hset
 have e0a : fcell ⟨s.st.length, s.pc, 0, false⟩ = [.int .i64 (ns : Int), .int .i64 0, .int .i64 0, .bool false] := by rw [← hnse]; rfl
 rw [hn, show s.fr.flatMap fcell = cs from hcs, e0a] at hset
 rw [hn] at hrow c11 hcv h8
 rw [hcs] at hrow
 rw [hnse] at c10 h32
 have HO := hidden (own_ext hrow (XW.alloc (.cells #[.int .i64 (ns : Int), .int .i64 0, .int .i64 0, .bool false] 184)).drew)
 have d11 := XW.cell c11
 have d10 := XW.cell c10
 have d0 := XW.cell hc0
 replace hset := hidden hset
 replace hy := hidden hy
 replace hn := hidden hn
 replace hnse := hidden hnse
 replace hcs := hidden hcs
 replace hV0 := hidden hV0
 replace hVs := hidden hVs
 replace hR := hidden hR
 replace hk := hidden hk
 replace hns := hidden hns
 have e00 := hc0
 have e10 := c10
 clear h hrow hst c11 c10 c9 hc0 hi e0a hp0
 go_enter Tryz.func100, Tryz.ntmps100
 go_wp2_with fail
 obtain ⟨W, hW⟩ := ex (w.alloc (.cells #[.int .i64 27, .int .u32 arg] 63))
 rw [hW] at XW hX d11 d10 d0 hset HO ⊢
 have HSe : (W.alloc (.cells #[.int .i64 (ns : Int), .int .i64 0, .int .i64 0, .bool false] 184)).drew.cell? ⟨q, 10, none⟩ = some (.slice as' ns cs') ∧ (W.alloc (.cells #[.int .i64 (ns : Int), .int .i64 0, .int .i64 0, .bool false] 184)).drew.cell? ⟨b, o, none⟩ = some (.int .u32 y) :=
  ⟨((Ext.refl W).alloc _).drew.cell d10, ((Ext.refl W).alloc _).drew.cell d0⟩
 have e11 := ((Ext.refl W).alloc (.cells #[.int .i64 (ns : Int), .int .i64 0, .int .i64 0, .bool false] 184)).drew.cell d11
 have HN := hidden (rd_newc W [.int .i64 (ns : Int), .int .i64 0, .int .i64 0, .bool false] 184 4 1 rfl (by decide)).drew
 have hBW := hidden (show B ≤ (W.alloc (.cells #[.int .i64 (ns : Int), .int .i64 0, .int .i64 0, .bool false] 184)).drew.heap.size from Nat.le_trans hB (XW.alloc _).drew.size)
 replace hW := hidden hW
 clear XW
 refine wp_region_held_drew (S := fun w' => w'.cell? ⟨q, 10, none⟩ = some (.slice as' ns cs') ∧ w'.cell? ⟨b, o, none⟩ = some (.int .u32 y)) (by kernel_rfl) ⟨d10, d0⟩ (fun HS => ?_)
 refine tkh 0 (.pointer (some ⟨q, 0, none⟩)) HS ?_; try simp only [sx]
 refine tkh 1 (.pointer (some ⟨q, 0, none⟩)) HS ?_; try simp only [sx]
 refine tkh 2 (.pointer (some ⟨q, 0, none⟩)) HS ?_; try simp only [sx]
 refine tkh 3 (.pointer (some ⟨q, 11, none⟩)) HS ?_; try simp only [sx]
 refine tkh 5 (.pointer (some ⟨q, 0, none⟩)) HS ?_; try simp only [sx]
 refine tkh 6 (.pointer (some ⟨q, 0, none⟩)) HS ?_; try simp only [sx]
 refine tkh 7 (.pointer (some ⟨q, 10, none⟩)) HS ?_; try simp only [sx]
 refine tkh 8 (.slice as' ns cs') HS ?_; try simp only [sx]
 refine tkh 9 (.int .i64 (ns : Int)) HS ?_; try simp only [sx]
 refine tkh 10 (.agg #[.int .i64 (ns : Int), .int .i64 0, .int .i64 0, .bool false]) HS ?_; try simp only [sx]
 refine pairH 4 11 (.slice av n cv) (.slice (some ⟨W.heap.size, 0, none⟩) 1 1) rfl rfl rfl rfl (by decide) (by decide) (by kernel_rfl) (by kernel_rfl) (by kernel_rfl) rfl rfl (w' := (W.alloc (.cells #[.int .i64 (ns : Int), .int .i64 0, .int .i64 0, .bool false] 184)).drew) (by go_simp) (by go_simp) (by go_simp) (by go_simp) HS HSe ?_; try simp only [sx]
 refine appendH 12 rfl rfl rfl (by kernel_rfl) _ _ 104 (by rfl) B 184 i0 (.agg #[.int .i64 0, .int .i64 0, .int .i64 0, .bool false]) 4 32 Tryz.underlying104 hia.out hz0 hz1 hz2 rfl (by decide) (.slice av n cv) n cs (by rfl) HO.out (some ⟨W.heap.size, 0, none⟩) 1 1 [.int .i64 (ns : Int), .int .i64 0, .int .i64 0, .bool false] (by rfl) HN.out (by simp [Value.oneCell']) (by unfold maxLen; omega) (by omega) (by have := hBW.out; omega) (by omega) ?_
 intro v' w4 hown4 hgrow4 hat4
 obtain ⟨m1, m2, m3, m4, m5, m6, m7⟩ := hset.out v' w4 hown4 hgrow4 hat4
 obtain ⟨a4, c4, rfl, k41, k42, -⟩ := own_shape hown4
 have f0 := m6 b o _ hbq e00
 have f10 := m7 10 _ e10
 replace m2 := hidden m2
 replace m3 := hidden m3
 have FS : w4.cell? ⟨q, 10, none⟩ = some (.slice as' ns cs') ∧ w4.cell? ⟨b, o, none⟩ = some (.int .u32 y) := ⟨f10, f0⟩
 clear hown4 hgrow4 hat4 m6 m7
 refine ⟨FS, ?_⟩; try simp only [sx]
 refine tkh 13 (.pointer (some ⟨q, 0, none⟩)) FS ?_; try simp only [sx]
 refine tkh 14 (.pointer (some ⟨q, 11, none⟩)) FS ?_; try simp only [sx]
 refine storeH 15 rfl rfl (by kernel_rfl) (by rfl) (w' := w4.setCell ⟨q, 11, none⟩ (.slice a4 (n + 1) c4)) (by go_simp) ⟨set_other (fun e => by cases e) f10, set_other (fun e => hbq' (congrArg Addr.block e).symm) f0⟩ ?_
 refine wpAnyH_done (by kernel_rfl) ?_ _
 show _
 have g0 : (w4.setCell ⟨q, 11, none⟩ (.slice a4 (n + 1) c4)).cell? ⟨b, o, none⟩ = some (.int .u32 y) := set_other (fun e => hbq' (congrArg Addr.block e).symm) f0
 obtain ⟨W5, hW5⟩ := ex (w4.setCell ⟨q, 11, none⟩ (.slice a4 (n + 1) c4))
 rw [hW5] at m1 m2 g0 ⊢
 clear f0 f10 m4 m5 FS
 replace hW5 := hidden hW5
 by_cases hy0 : y = 0
 ·subst hy0
  have hy2 := hR.out
  rw [if_neg (by simp)] at hy2
  cases ht : toF E s.pc with
  | none => rw [ht] at hy2; exact absurd hy2.symm hns.out
  | some t =>
   rw [ht] at hy2
   simp only at hy2
   obtain ⟨-, t2, t3, t4⟩ := toF_some ht
   obtain ⟨bP, oP, cP, hvP, hcP, -, -, hcp⟩ := m1.env.part_at (k := k) (by have := hk.out; omega)
   obtain ⟨bC, oC, cC, hvC, hcC, -, -, hcc, -⟩ := m1.env.code_at t4
   have k5 := m1.cell 5 _ rfl
   have k9 := m1.cell 9 _ rfl
   have k4 := m1.cell 4 _ rfl
   have f9 := m1.blk.frozen 9
   rw [hvP] at k5
   rw [hvC] at k4
   change W5.cell? ⟨q, 9, none⟩ = some (.int .i64 s.pc) at k9
   rw [hk.out] at k9 t3
   rw [Int.toNat_natCast] at t3
   rw [t3] at hcp
   obtain ⟨nP, hnP⟩ := ex E.P.length
   obtain ⟨nC, hnC⟩ := ex E.C.length
   obtain ⟨u, hu⟩ := ex (opC E.C t)
   rw [hu] at hcc hy2
   rw [hnP] at k5 hcP t2 hP0
   rw [hnC] at k4 hcC t4 hp1 hP0 hC0
   have kl : (k : Int) < (nP : Int) := by have := hk.out; omega
   have tl : (t : Int) < (nC : Int) := by omega
   have tw : IntKind.i64.wrap ((t : Int) - 1) = (t : Int) - 1 := IntWalk.i64_in _ (by omega)
   have M1 := fun (nq : Nat) => (m1.ext ((Ext.refl W5).drewN nq)).cellq 9 (.int .i64 ((t : Int) - 1)) (s' := { s with fr := s.fr ++ [⟨s.st.length, s.pc, 0, false⟩], pc := (t : Int) - 1 }) rfl rfl rfl
   have M2 := fun (nq : Nat) => (m1.ext ((Ext.refl W5).drewN nq)).cellq 9 (.int .i64 (t : Int)) (s' := { s with fr := s.fr ++ [⟨s.st.length, s.pc, 0, false⟩], pc := (t : Int) }) rfl rfl rfl
   replace M1 := hidden M1
   replace M2 := hidden M2
   replace hu := hidden hu
   replace hnP := hidden hnP
   replace hnC := hidden hnC
   replace hvP := hidden hvP
   replace hvC := hidden hvC
   replace t3 := hidden t3
   replace ht := hidden ht
   clear hR m1 hP0
   by_cases h31 : u = 31
   ·subst h31
    rw [if_pos rfl] at hy2
    replace hy2 := hidden hy2
    go_wp2_with fail
    go_quiet (fail)
    all_goals go_wp2_with fail
    go_end0
    show MP _ _ _ _ _ _ R _ _
    rw [← hy2.out]
    obtain ⟨n1, n2⟩ := M1.out nq
    exact ⟨rfl, _, n1, m2.out.next m3.out ((Chg.refl _ W5).drewN nq |>.trans n2 (fun x hx => Or.inl hx)), m3.out⟩
   ·have hq31 : (u == 31) = false := by simp; exact h31
    rw [if_neg h31] at hy2
    by_cases h28 : u = 28
    ·rw [if_pos h28] at hy2
     replace hy2 := hidden hy2
     clear h31 h28
     go_wp2_with fail
     go_quiet (fail)
     all_goals go_wp2_with fail
     go_end0
     show MP _ _ _ _ _ _ R _ _
     rw [← hy2.out]
     obtain ⟨n1, n2⟩ := M2.out nq
     exact ⟨rfl, _, n1, m2.out.next m3.out ((Chg.refl _ W5).drewN nq |>.trans n2 (fun x hx => Or.inl hx)), m3.out⟩
    ·rw [if_neg h28] at hy2
     exact absurd hy2.symm hns.out
 ·have hq0 : (y != 0) = true := by simp; exact hy0
  have hy2 := hR.out
  rw [if_pos hy0] at hy2
  replace hy2 := hidden hy2
  replace m1 := hidden m1
  clear hy0 hR
  go_wp2_with fail
  go_end0
  show MP _ _ _ _ _ _ R _ _
  rw [← hy2.out]
  exact ⟨rfl, _, m1.out, m2.out, m3.out⟩
theorem m_otherwise : Meth 101 28 := by
 intro w B q V X E s arg l v h
 rw [exe28]
 have hns := h.ns
 rw [exe28] at hns
 have hst := h.m.row 2 _ rfl
 unfold Row.own at hst
 simp only at hst
 have c10 := h.m.cell 10 _ rfl
 obtain ⟨k, hk⟩ := Int.eq_ofNat_of_zero_le h.p0
 have hp1 := h.p1
 have hP0 := h.okE.P0
 have hC0 := h.okE.C0
 have h32 := h.ok.st
 obtain ⟨as', cs', hVs, hcs', -, -⟩ := own_shape hst
 rw [hVs] at c10
 have hbs := fun W (c : Ext w W) => ibase_any W B q V X E s (h.m.ext c) h.ok
 obtain ⟨R, hR⟩ := ex (otherF E s)
 rw [hR]
 rw [hR] at hns
 unfold otherF at hR
 cases hla : s.fr.getLast? with
 | none => rw [hla] at hR; exact absurd hR.symm hns
 | some f =>
 rw [hla] at hR
 simp only at hR
 have hbe : baseF s.fr = f.base := by unfold baseF; rw [hla]
 rw [hbe] at hbs
 obtain ⟨fb1, fb2, fb3, fb4, fb5, fb6, fb7⟩ := h.ok.frv f (last_mem hla)
 obtain ⟨bs, hbse⟩ := ex f.base
 rw [hbse] at hbs hR fb1 fb2
 obtain ⟨ns, hnse⟩ := ex s.st.length
 rw [hnse] at c10 h32 hR
 have hM := hidden h.m
 have hB := h.hb
 have hokS := hidden h.ok
 have hokE := hidden h.okE
 have XW := (Ext.refl w).alloc (.cells #[.int .i64 28, .int .u32 arg] 63)
 have hX := hidden XW
 have d10 := XW.cell c10
 replace hbs := hidden hbs
 replace hnse := hidden hnse
 replace hbse := hidden hbse
 replace hVs := hidden hVs
 replace hk := hidden hk
 replace hns := hidden hns
 replace hbe := hidden hbe
 clear h hst c10
 by_cases heq : (ns : Int) = bs
 ·rw [if_neg (by omega)] at hR
  cases ht : toF E s.pc with
  | none => rw [ht] at hR; exact absurd hR.symm hns.out
  | some t =>
  rw [ht] at hR
  simp only at hR
  by_cases hc31 : opC E.C t = 31 ∧ f.loop = false
  ·rw [if_pos hc31] at hR
   have hdec : decide ((ns : Int) = bs) = true := decide_eq_true heq
   have heqb : ((ns : Int) == bs) = true := by simp; exact heq
   obtain ⟨-, t2, t3, t4⟩ := toF_some ht
   replace hR := hidden hR
   replace hla := hidden hla
   replace ht := hidden ht
   replace hc31 := hidden hc31
   clear heq fb5
   go_enter Tryz.func101, Tryz.ntmps101
   go_wp2_with fail
   obtain ⟨W, hW⟩ := ex (w.alloc (.cells #[.int .i64 28, .int .u32 arg] 63))
   rw [hW] at XW hX d10 ⊢
   replace hW := hidden hW
   clear XW
   refine wp_region_held_drew (S := fun w' => w'.cell? ⟨q, 10, none⟩ = some (.slice as' ns cs')) (by kernel_rfl) d10 (fun HS => ?_)
   refine tkh 0 (.pointer (some ⟨q, 0, none⟩)) HS ?_; try simp only [sx]
   refine tkh 1 (.pointer (some ⟨q, 0, none⟩)) HS ?_; try simp only [sx]
   refine tkh 2 (.pointer (some ⟨q, 10, none⟩)) HS ?_; try simp only [sx]
   refine tkh 3 (.slice as' ns cs') HS ?_; try simp only [sx]
   refine tkh 4 (.int .i64 (ns : Int)) HS ?_; try simp only [sx]
   refine tkh 5 (.pointer (some ⟨q, 0, none⟩)) HS ?_; try simp only [sx]
   refine callH 6 109 #[.pointer (some ⟨q, 0, none⟩)] rfl rfl (by kernel_rfl) (by rfl) (by go_simp) (hbs.out W.drew hX.out.drew) ?_
   rintro x w1 ⟨rfl, hX1⟩
   have hX2 := hidden (hX.out.drew.trans hX1)
   have e10 : w1.cell? ⟨q, 10, none⟩ = some (.slice as' ns cs') := hX1.cell d10
   clear hX1
   refine ⟨_, rfl, e10, ?_⟩; try simp only [sx]
   refine tkh 7 (.bool true) e10 ?_; try simp only [sx]
   refine callHP 8 70 #[.bool true, .int .i64 14] rfl (by kernel_rfl) (by rfl) (by go_simp) (idem_true 14 _) ?_
   rintro x w2 ⟨rfl, hw2⟩
   rw [hw2]
   clear hw2
   refine Or.inl ⟨_, rfl, e10, ?_⟩
   refine wpAnyH_done (by kernel_rfl) ?_ _
   show _
   have m1 := hM.out.ext hX2.out
   obtain ⟨bP, oP, cP, hvP, hcP, -, -, hcp⟩ := m1.env.part_at (k := k) (by have := hk.out; omega)
   have k5 := m1.cell 5 _ rfl
   have k9 := m1.cell 9 _ rfl
   have f9 := m1.blk.frozen 9
   rw [hvP] at k5
   change w1.cell? ⟨q, 9, none⟩ = some (.int .i64 s.pc) at k9
   rw [hk.out] at k9 t3
   rw [Int.toNat_natCast] at t3
   rw [t3] at hcp
   obtain ⟨nP, hnP⟩ := ex E.P.length
   rw [hnP] at k5 hcP t2 hP0
   have kl : (k : Int) < (nP : Int) := by have := hk.out; omega
   have tw : IntKind.i64.wrap ((t : Int) - 1) = (t : Int) - 1 := IntWalk.i64_in _ (by omega)
   obtain ⟨n1, n2⟩ := (m1.ext (Ext.refl w1).drew).cellq 9 (.int .i64 ((t : Int) - 1)) (s' := { s with pc := (t : Int) - 1 }) rfl rfl rfl
   replace n1 := hidden n1
   replace n2 := hidden n2
   replace hnP := hidden hnP
   replace hvP := hidden hvP
   replace t3 := hidden t3
   clear m1 hP0 d10 e10
   go_wp2_with fail
   go_still_tail 14, (by kernel_rfl)
   change wpList _ _ _ _ _ w1.drew
   go_wp2_with fail
   go_end0
   show MP _ _ _ _ _ _ R _ _
   rw [← hR.out]
   exact ⟨rfl, _, n1.out, (Chg.of_ext _ hX2.out.drew).trans n2.out (fun x hx => Or.inl hx), ToV.refl _ _ _⟩
  ·rw [if_neg hc31] at hR
   exact absurd hR.symm hns.out
 ·rw [if_pos heq] at hR
  have hdec : decide ((ns : Int) = bs) = false := decide_eq_false heq
  have heqb : ((ns : Int) == bs) = false := by simp; exact heq
  replace hR := hidden hR
  replace hla := hidden hla
  clear heq fb5
  go_enter Tryz.func101, Tryz.ntmps101
  go_wp2_with fail
  obtain ⟨W, hW⟩ := ex (w.alloc (.cells #[.int .i64 28, .int .u32 arg] 63))
  rw [hW] at XW hX d10 ⊢
  replace hW := hidden hW
  clear XW
  refine wp_region_held_drew (S := fun w' => w'.cell? ⟨q, 10, none⟩ = some (.slice as' ns cs')) (by kernel_rfl) d10 (fun HS => ?_)
  refine tkh 0 (.pointer (some ⟨q, 0, none⟩)) HS ?_; try simp only [sx]
  refine tkh 1 (.pointer (some ⟨q, 0, none⟩)) HS ?_; try simp only [sx]
  refine tkh 2 (.pointer (some ⟨q, 10, none⟩)) HS ?_; try simp only [sx]
  refine tkh 3 (.slice as' ns cs') HS ?_; try simp only [sx]
  refine tkh 4 (.int .i64 (ns : Int)) HS ?_; try simp only [sx]
  refine tkh 5 (.pointer (some ⟨q, 0, none⟩)) HS ?_; try simp only [sx]
  refine callH 6 109 #[.pointer (some ⟨q, 0, none⟩)] rfl rfl (by kernel_rfl) (by rfl) (by go_simp) (hbs.out W.drew hX.out.drew) ?_
  rintro x w1 ⟨rfl, hX1⟩
  have hX2 := hidden (hX.out.drew.trans hX1)
  have e10 : w1.cell? ⟨q, 10, none⟩ = some (.slice as' ns cs') := hX1.cell d10
  clear hX1
  refine ⟨_, rfl, e10, ?_⟩; try simp only [sx]
  refine tkh 7 (.bool false) e10 ?_; try simp only [sx]
  refine callHP 8 70 #[.bool false, .int .i64 14] rfl (by kernel_rfl) (by rfl) (by go_simp) (idem_false 14 _) ?_
  rintro x w2 ⟨rfl, hw2⟩
  rw [hw2]
  clear hw2
  refine Or.inr ⟨_, rfl, rfl, ?_⟩
  show MP _ _ _ _ _ _ R _ _
  rw [← hR.out]
  exact ⟨rfl, Chg.of_ext _ hX2.out⟩
theorem m_loop : Meth 102 29 := by
 intro w B q V X E s arg l v h
 rw [exe29]
 have hll : l.length = 1 := h.ll
 obtain ⟨b, o, capl, rfl, hbq, hbl, hc0, -⟩ := h.v0 0 (by omega)
 rw [hll]
 obtain ⟨i0, hi, hz0, hz1, hz2⟩ := info_parts frame_info
 have hia := hidden hi
 have hyu : U32 (vl l 0).1 := u32_vl h.lu 0
 have hns := h.ns
 rw [exe29] at hns
 obtain ⟨y, hy⟩ := ex ((vl l 0).1)
 rw [hy] at hc0 hyu hns ⊢
 simp only [Nat.zero_mul, Nat.add_zero] at hc0
 have hrow := h.m.row 3 _ rfl
 unfold Row.own at hrow
 simp only at hrow
 have hst := h.m.row 2 _ rfl
 unfold Row.own at hst
 simp only at hst
 have c11 := h.m.cell 11 _ rfl
 have c10 := h.m.cell 10 _ rfl
 have c9 := h.m.cell 9 _ rfl
 have hqV : q ∈ SV q V := by simp [SV]
 have hbq' : b ≠ q := fun e => hbq (by rw [e]; exact hqV)
 have hp0 := h.p0
 have hp1 := h.p1
 have hP0 := h.okE.P0
 have hC0 := h.okE.C0
 obtain ⟨k, hk⟩ := Int.eq_ofNat_of_zero_le h.p0
 have hfo := hidden h.okE
 have hB := h.hb
 have h32 := h.ok.st
 obtain ⟨av, cv, hV0, hcv, hcv2, -⟩ := own_shape hrow
 obtain ⟨as', cs', hVs, hcs', -, -⟩ := own_shape hst
 rw [hV0] at hrow c11
 rw [hVs] at c10
 have hopc : opC E.C s.pc.toNat = 29 := h.opc
 have hok := hidden h.ok
 obtain ⟨R, hR⟩ := ex (loopF E y s)
 rw [hR]
 rw [hR] at hns
 unfold loopF at hR
 have hd1 := hidden (idem_true 18)
 have hd0 := hidden (idem_false 18)
 have XW := (Ext.refl w).alloc (.cells #[.int .i64 29, .int .u32 arg] 63)
 have hX := hidden XW
 have d0 := XW.cell hc0
 have hM := hidden h.m
 rw [hk] at c9
 by_cases h1 : 65536 < y
 ·rw [if_pos h1] at hR
  have hdec : decide (y ≤ 65536) = false := decide_eq_false (by omega)
  replace hR := hidden hR
  replace hk := hidden hk
  clear h hrow hst c11 c10 hc0 hi h1 hV0 hVs c9
  go_enter Tryz.func102, Tryz.ntmps102
  go_wp2_with fail
  refine (hd0.out _).mono ?_
  rintro x w1 ⟨rfl, hw1⟩
  rw [hw1]
  unfold failI
  go_wp2_with fail
  refine ⟨rfl, ?_⟩
  show MP _ _ _ _ _ _ R _ _
  rw [← hR.out]
  exact ⟨rfl, Chg.of_ext _ hX.out⟩
 ·rw [if_neg h1] at hR
  have hdec : decide (y ≤ 65536) = true := decide_eq_true (by omega)
  by_cases hy0 : y = 0
  ·subst hy0
   rw [if_pos rfl] at hR
   cases ht : toF E s.pc with
   | none => rw [ht] at hR; exact absurd hR.symm hns
   | some t =>
   rw [ht] at hR
   simp only at hR
   obtain ⟨-, t2, t3, t4⟩ := toF_some ht
   have m1 := hM.out.ext XW
   obtain ⟨bP, oP, cP, hvP, hcP, -, -, hcp⟩ := m1.env.part_at (k := k) (by omega)
   have k5 := m1.cell 5 _ rfl
   have k9 := m1.cell 9 _ rfl
   have f9 := m1.blk.frozen 9
   rw [hvP] at k5
   change (w.alloc (.cells #[.int .i64 29, .int .u32 arg] 63)).cell? ⟨q, 9, none⟩ = some (.int .i64 s.pc) at k9
   rw [hk] at k9 t3
   rw [Int.toNat_natCast] at t3
   rw [t3] at hcp
   obtain ⟨nP, hnP⟩ := ex E.P.length
   rw [hnP] at k5 hcP t2 hP0
   have kl : (k : Int) < (nP : Int) := by omega
   obtain ⟨n1, n2⟩ := (m1.ext (Ext.refl _).drew).cellq 9 (.int .i64 (t : Int)) (s' := { s with pc := (t : Int) }) rfl rfl rfl
   replace n1 := hidden n1
   replace n2 := hidden n2
   replace hnP := hidden hnP
   replace hvP := hidden hvP
   replace t3 := hidden t3
   replace hR := hidden hR
   replace hk := hidden hk
   replace ht := hidden ht
   clear m1 hP0 h hrow hst c11 c10 hc0 hi hV0 hVs c9
   go_enter Tryz.func102, Tryz.ntmps102
   go_wp2_with fail
   refine (hd1.out _).mono ?_
   rintro x w1 ⟨rfl, hw1⟩
   rw [hw1]
   clear hw1
   go_wp2_with fail
   obtain ⟨W, hW⟩ := ex (w.alloc (.cells #[.int .i64 29, .int .u32 arg] 63))
   rw [hW] at k5 k9 f9 hcp n1 n2 hX ⊢
   replace hW := hidden hW
   clear d0 XW
   go_still_tail 13, (by kernel_rfl)
   change wpList _ _ _ _ _ W.drew
   go_wp2_with fail
   go_end0
   show MP _ _ _ _ _ _ R _ _
   rw [← hR.out]
   exact ⟨rfl, _, n1.out, (Chg.of_ext _ hX.out.drew).trans n2.out (fun x hx => Or.inl hx), ToV.refl _ _ _⟩
  ·rw [if_neg hy0] at hR
   have h8 : ¬ 8 ≤ s.fr.length := fun h8 => by rw [if_pos h8] at hR; exact hns hR.symm
   rw [if_neg h8] at hR
   have hq0 : (y == 0) = false := by simp; exact hy0
   have hok2 := hidden (hok.out.frame h.p0 h.p1 y true (by rw [hopc]; rfl) hyu.1 (by omega) h8 s.pc)
   have hyw : IntKind.i64.wrap y = y := IntWalk.i64_in _ (by have := hyu.1; have := hyu.2; omega)
   obtain ⟨n, hn⟩ := ex s.fr.length
   obtain ⟨ns, hnse⟩ := ex s.st.length
   obtain ⟨cs, hcs⟩ := ex (s.fr.flatMap LP.fc)
   have hset := fun (v' : Value) (w1 : World) (g1 : w1.ownsRow B 184 4 v' (s.fr.length + 1) (s.fr.flatMap fcell ++ fcell ⟨s.st.length, s.pc, y, true⟩)) => h.m.pushFrame ((XW.alloc (.cells #[.int .i64 (ns : Int), .int .i64 (k : Int), .int .i64 y, .bool true] 184)).drew) ⟨s.st.length, s.pc, y, true⟩ v' g1
   rw [hV0] at hset
   have e0a : fcell ⟨s.st.length, s.pc, y, true⟩ = [.int .i64 (ns : Int), .int .i64 (k : Int), .int .i64 y, .bool true] := by rw [← hnse, ← hk]; rfl
   rw [hn, show s.fr.flatMap fcell = cs from hcs, e0a] at hset
   rw [hn] at hrow c11 hcv h8
   rw [hcs] at hrow
   rw [hnse] at c10 h32
   have HO := hidden (own_ext hrow (XW.alloc (.cells #[.int .i64 (ns : Int), .int .i64 (k : Int), .int .i64 y, .bool true] 184)).drew)
   have d11 := XW.cell c11
   have d10 := XW.cell c10
   have d9 := XW.cell c9
   replace hset := hidden hset
   replace hy := hidden hy
   replace hn := hidden hn
   replace hnse := hidden hnse
   replace hcs := hidden hcs
   replace hV0 := hidden hV0
   replace hVs := hidden hVs
   replace hR := hidden hR
   replace hk := hidden hk
   replace hns := hidden hns
   replace hopc := hidden hopc
   have e9 := c9
   have e10 := c10
   clear h hrow hst c11 c10 c9 hc0 hi e0a hp0 hy0
   go_enter Tryz.func102, Tryz.ntmps102
   go_wp2_with fail
   refine (hd1.out _).mono ?_
   rintro x w1 ⟨rfl, hw1⟩
   rw [hw1]
   clear hw1
   go_wp2_with fail
   obtain ⟨W, hW⟩ := ex (w.alloc (.cells #[.int .i64 29, .int .u32 arg] 63))
   rw [hW] at XW hX d11 d10 d9 d0 hset HO ⊢
   have HSe : (W.alloc (.cells #[.int .i64 (ns : Int), .int .i64 (k : Int), .int .i64 y, .bool true] 184)).drew.cell? ⟨q, 10, none⟩ = some (.slice as' ns cs') ∧ (W.alloc (.cells #[.int .i64 (ns : Int), .int .i64 (k : Int), .int .i64 y, .bool true] 184)).drew.cell? ⟨q, 9, none⟩ = some (.int .i64 (k : Int)) :=
    ⟨((Ext.refl W).alloc _).drew.cell d10, ((Ext.refl W).alloc _).drew.cell d9⟩
   have e11 := ((Ext.refl W).alloc (.cells #[.int .i64 (ns : Int), .int .i64 (k : Int), .int .i64 y, .bool true] 184)).drew.cell d11
   have HN := hidden (rd_newc W [.int .i64 (ns : Int), .int .i64 (k : Int), .int .i64 y, .bool true] 184 4 1 rfl (by decide)).drew
   have hBW := hidden (show B ≤ (W.alloc (.cells #[.int .i64 (ns : Int), .int .i64 (k : Int), .int .i64 y, .bool true] 184)).drew.heap.size from Nat.le_trans hB (XW.alloc _).drew.size)
   replace hW := hidden hW
   clear XW
   refine wp_region_held_drew (S := fun w' => w'.cell? ⟨q, 10, none⟩ = some (.slice as' ns cs') ∧ w'.cell? ⟨q, 9, none⟩ = some (.int .i64 (k : Int))) (by kernel_rfl) ⟨d10, d9⟩ (fun HS => ?_)
   refine tkh 0 (.pointer (some ⟨q, 0, none⟩)) HS ?_; try simp only [sx]
   refine tkh 1 (.pointer (some ⟨q, 0, none⟩)) HS ?_; try simp only [sx]
   refine tkh 2 (.pointer (some ⟨q, 0, none⟩)) HS ?_; try simp only [sx]
   refine tkh 3 (.pointer (some ⟨q, 11, none⟩)) HS ?_; try simp only [sx]
   refine tkh 5 (.pointer (some ⟨q, 0, none⟩)) HS ?_; try simp only [sx]
   refine tkh 6 (.pointer (some ⟨q, 0, none⟩)) HS ?_; try simp only [sx]
   refine tkh 7 (.pointer (some ⟨q, 10, none⟩)) HS ?_; try simp only [sx]
   refine tkh 8 (.slice as' ns cs') HS ?_; try simp only [sx]
   refine tkh 9 (.int .i64 (ns : Int)) HS ?_; try simp only [sx]
   refine tkh 10 (.pointer (some ⟨q, 0, none⟩)) HS ?_; try simp only [sx]
   refine tkh 11 (.pointer (some ⟨q, 0, none⟩)) HS ?_; try simp only [sx]
   refine tkh 12 (.pointer (some ⟨q, 9, none⟩)) HS ?_; try simp only [sx]
   refine tkh 13 (.int .i64 (k : Int)) HS ?_; try simp only [sx]
   refine tkh 14 (.int .u32 y) HS ?_; try simp only [sx]
   refine tkh 15 (.int .i64 y) HS ?_; try simp only [sx]
   refine tkh 16 (.agg #[.int .i64 (ns : Int), .int .i64 (k : Int), .int .i64 y, .bool true]) HS ?_; try simp only [sx]
   refine pairH 4 17 (.slice av n cv) (.slice (some ⟨W.heap.size, 0, none⟩) 1 1) rfl rfl rfl rfl (by decide) (by decide) (by kernel_rfl) (by kernel_rfl) (by kernel_rfl) rfl rfl (w' := (W.alloc (.cells #[.int .i64 (ns : Int), .int .i64 (k : Int), .int .i64 y, .bool true] 184)).drew) (by go_simp) (by go_simp) (by go_simp) (by go_simp) HS HSe ?_; try simp only [sx]
   refine appendH 18 rfl rfl rfl (by kernel_rfl) _ _ 104 (by rfl) B 184 i0 (.agg #[.int .i64 0, .int .i64 0, .int .i64 0, .bool false]) 4 32 Tryz.underlying104 hia.out hz0 hz1 hz2 rfl (by decide) (.slice av n cv) n cs (by rfl) HO.out (some ⟨W.heap.size, 0, none⟩) 1 1 [.int .i64 (ns : Int), .int .i64 (k : Int), .int .i64 y, .bool true] (by rfl) HN.out (by simp [Value.oneCell']) (by unfold maxLen; omega) (by omega) (by have := hBW.out; omega) (by omega) ?_
   intro v' w4 hown4 hgrow4 hat4
   obtain ⟨m1, m2, m3, m4, m5, m6, m7⟩ := hset.out v' w4 hown4 hgrow4 hat4
   obtain ⟨a4, c4, rfl, k41, k42, -⟩ := own_shape hown4
   have f10 := m7 10 _ e10
   have f9 := m7 9 _ e9
   replace m2 := hidden m2
   replace m3 := hidden m3
   have FS : w4.cell? ⟨q, 10, none⟩ = some (.slice as' ns cs') ∧ w4.cell? ⟨q, 9, none⟩ = some (.int .i64 (k : Int)) := ⟨f10, f9⟩
   clear hown4 hgrow4 hat4 m6 m7
   refine ⟨FS, ?_⟩; try simp only [sx]
   refine tkh 19 (.pointer (some ⟨q, 0, none⟩)) FS ?_; try simp only [sx]
   refine tkh 20 (.pointer (some ⟨q, 11, none⟩)) FS ?_; try simp only [sx]
   refine storeH 21 rfl rfl (by kernel_rfl) (by rfl) (w' := w4.setCell ⟨q, 11, none⟩ (.slice a4 (n + 1) c4)) (by go_simp) ⟨set_other (fun e => by cases e) f10, set_other (fun e => by cases e) f9⟩ ?_
   refine wpAnyH_done (by kernel_rfl) ?_ _
   show _
   obtain ⟨W5, hW5⟩ := ex (w4.setCell ⟨q, 11, none⟩ (.slice a4 (n + 1) c4))
   rw [hW5] at m1 m2 ⊢
   clear f9 f10 m4 m5 FS HSe HS d9 d10 d11 e11
   replace hW5 := hidden hW5
   have hstep := hidden (istep_any W5 B q _ X E _ m1 hok2.out hfo.out)
   rw [hR.out] at hstep
   go_wp2_with fail
   refine hstep.out.mono ?_
   intro x w6 hm
   have hm' : MP w B q V X E R x w6 := by
    cases R with
    | stuck => exact hm
    | err e => exact ⟨hm.1, m2.out.next m3.out hm.2⟩
    | go s' =>
     obtain ⟨h1, V', h2, h3, h4⟩ := hm
     exact ⟨h1, V', h2, m2.out.next m3.out h3, m3.out.trans h4 m2.out.size⟩
   clear hm m1
   cases R with
   | stuck => exact hm'.elim
   | err e =>
    obtain ⟨rfl, hm⟩ := hm'
    replace hm := hidden hm
    unfold failI
    go_wp2_with fail
    exact ⟨rfl, rfl, hm.out⟩
   | go s' =>
    obtain ⟨rfl, hm⟩ := hm'
    replace hm := hidden hm
    go_wp2_with fail
    go_end0
    exact ⟨rfl, hm.out⟩
end Go.Proofs.YtgjjklajipekdaaGreat
