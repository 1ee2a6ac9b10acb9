
import Derived.Test.YtgjjklajipekdaaGreatZe
import Derived.Test.YtgjjklajipekdaaGreatZf
import Derived.Test.YtgjjklajipekdaaGreatYza
import Derived.Test.YtgjjklajipekdaaGreatYm
namespace Go.Proofs.YtgjjklajipekdaaGreat
set_option maxHeartbeats 16000000
set_option maxRecDepth 100000
open Go.RowKit
set_option linter.unusedVariables false
set_option linter.unusedSimpArgs false
attribute [local go_sem ↓] Go.wp_at_zero Go.wp_at_succ
theorem wpAnyD_weak {P : Program} {md : Region.Mode} {ops : Array Oper} {Q : Exit → Act → World → Prop} {S : World → Prop} {D : List Nat} : ∀ (fuel : Nat) (listed : Array Bool) (a : Act) (w : World), wpAnyD P md ops Q S D fuel listed a w → wpAnyD P md ops Q (fun _ => True) [] fuel listed a w
 | 0, _, _, _, h => h
 | fuel + 1, _, _, _, h => ⟨h.1, fun i hi => wpOp_mono (fun a' w' h' => ⟨fun _ => trivial, wpAnyD_weak fuel _ a' w' h'.2⟩) (h.2 i hi)⟩
theorem rpl_34 (arg : Int) (w : World) (B q : Nat) (V : Vs) (X : EV) (E : Env) (s : MS) (h : MSt LR w B q V X E s) (hB : B ≤ w.heap.size) (hs : OkS E s) (hE : OkE E) (y : Int) (t0 : Bool) (vl : Value) (hl : Rd w 2 vl 1 ([(y, t0)].flatMap vcR)) (hy0 : U32 y) :
  Calls Tryz.prog 58 #[.pointer (some ⟨q, 0, none⟩), .agg #[.int .i64 34, .int .u32 arg], vl] w (PlP w B q V X E (if s.out.length < 65536 then .ok ([], { s with out := s.out ++ [y % 256] }) else .error 5)) := by
 obtain ⟨b, hb⟩ := ex w.heap.size
 obtain ⟨W1, hW1, X1, N1⟩ := alx w #[.int .i64 34, .int .u32 arg] [.int .i64 34, .int .u32 arg] 63 b hb
 obtain ⟨n0, n1⟩ := N1.c2
 have hI := hidden h
 have h1 := h.ext X1
 obtain ⟨i0, hi, hz0, hz1, hz2⟩ := info_parts u8_info
 have hia := hidden hi
 obtain ⟨lv, lc, rfl, -⟩ := Rd.shape hl
 obtain ⟨lb, lo, rfl, -, -⟩ := Rd.cells hl (by decide)
 have g1 := X1.cell (rd_at hl 1 _ rfl)
 have hrow := h1.row 5 _ rfl
 unfold Row.own at hrow
 simp only at hrow
 have c12 := h1.cell 12 _ rfl
 have hset0 := fun (W w1 : World) (v' : Value) (cX : Ext W1 W) (g1 : w1.ownsRow B 5 1 v' (s.out.length + 1) (s.out.map (Value.int .u8) ++ [.int .u8 (y % 256)])) (g2 : W.grownBy w1 V.out.ownBlock) (g3 : v'.ownBlock = V.out.ownBlock ∨ v'.ownBlock = some W.heap.size) => by
  have hMW := h1.ext cX
  have c : Chg V.out.ownBlock.toList W w1 := (Chg.refl _ W).grown g2 (fun k hk => Or.inl (by simp [hk]))
  have hq : q ∉ V.out.ownBlock.toList := fun hm => (List.nodup_cons.1 h1.rows.nodup).1 (mem_blks.2 ⟨_, List.mem_of_getElem? (i := 5) rfl, by simpa using hm⟩)
  obtain ⟨m1, m2, m3⟩ := hMW.setRow (i := 5) (j := 12) (r' := ⟨5, 1, v', (s.out ++ [y % 256]).length, (s.out ++ [y % 256]).map (Value.int .u8)⟩) (V' := { V with out := v' }) (s' := { s with out := s.out ++ [y % 256] }) rfl c (fun x hx => Or.inl (by simpa using hx))
   (by unfold Row.own; simp only [List.length_append, List.map_append]; exact g1) (fun x hx => by rcases g3 with e | e <;> rw [e] at hx; exact Or.inl hx; simp only [Option.some.injEq] at hx; exact Or.inr (by omega)) rfl hMW.al rfl
  exact (⟨m1, (Chg.of_ext _ (X1.trans cX)).trans m2 (fun x hx => Or.inl hx), fun x hx => (m3 x hx).imp id (fun h => Nat.le_trans (X1.trans cX).size h), c.cell hq (cX.cell c12), c.frozen hq (cX.cell c12) ((h1.ext cX).blk.frozen 12)⟩ : MSt LR (w1.setCell ⟨q, 12, none⟩ v') B q { V with out := v' } X E { s with out := s.out ++ [y % 256] } ∧ Chg (SV q V) w (w1.setCell ⟨q, 12, none⟩ v') ∧ ToV w.heap.size q V { V with out := v' } ∧ w1.cell? ⟨q, 12, none⟩ = some V.out ∧ w1.frozen? ⟨q, 12, none⟩ = false)
 have y0 := hy0.1
 have hwr : IntKind.u8.wrap (y % 256) = y % 256 := by rw [IntKind.wrap_u8]; omega
 have hmd : y.tmod 256 = y % 256 := Int.tmod_eq_emod_of_nonneg y0
 obtain ⟨av, cv, hV0, hcv, hcv2, -⟩ := own_shape hrow
 rw [hV0] at hrow c12 hset0
 obtain ⟨R, hR⟩ : ∃ R : Except Int (List Vl × MS), (if s.out.length < 65536 then .ok ([], { s with out := s.out ++ [y % 256] }) else .error 5) = R := ⟨_, rfl⟩
 rw [hR]
 obtain ⟨n, hn⟩ := ex s.out.length
 obtain ⟨cs, hcs⟩ := ex (s.out.map (Value.int .u8))
 have hno := hs.out
 rw [hn] at hrow c12 hcv hR hset0 hno
 rw [hcs] at hrow hset0
 have hBW := hidden (Nat.le_trans hB X1.size)
 by_cases hlt : n < 65536
 ·have hdec : decide ((65536 : Int) ≤ (n : Int)) = false := decide_eq_false (by omega)
  have hdec2 : ¬ (65536 : Int) ≤ (n : Int) := by omega
  rw [if_pos hlt] at hR
  replace hR := hidden hR
  clear hs hE hi hV0 hn hcs hl
  have X1I := hidden X1
  replace hW1 := hidden hW1
  clear h h1 X1 N1
  go_enter Tryz.func58, Tryz.ntmps58
  go_upto_region 1 with fail
  rw [hW1.out]
  clear hW1 hb
  go_upto_region 34 with fail
  refine wp_region_D (S := fun _ => True) (D := []) (by kernel_rfl) trivial (fun _ => ?_)
  refine tk 0 [] (.pointer (some ⟨q, 0, none⟩)) trivial ?_; try simp only [sx]
  have HS : W1.drew.cell? ⟨q, 12, none⟩ = some (.slice av n cv) ∧ W1.drew.cell? ⟨lb, lo + 1, none⟩ = some (.int .u32 y) := ⟨c12, g1⟩
  refine wpAnyD_weak (S := fun w' => w'.cell? ⟨q, 12, none⟩ = some (.slice av n cv) ∧ w'.cell? ⟨lb, lo + 1, none⟩ = some (.int .u32 y)) (D := [12, 13, 14, 15]) _ _ _ _ ?_
  refine tk 1 [2, 3, 4, 12, 13, 14, 15] (.pointer (some ⟨q, 0, none⟩)) HS ?_; try simp only [sx]
  refine tk 2 [3, 4, 12, 13, 14, 15] (.pointer (some ⟨q, 0, none⟩)) HS ?_; try simp only [sx]
  refine tk 3 [4, 12, 13, 14, 15] (.pointer (some ⟨q, 12, none⟩)) HS ?_; try simp only [sx]
  refine tk 4 [12, 13, 14, 15] (.slice av n cv) HS ?_; try simp only [sx]
  refine tk 5 [6, 7, 8, 9, 10, 11, 12, 13, 14, 15] (.slice (some ⟨lb, lo, none⟩) 1 lc) HS ?_; try simp only [sx]
  refine tk 6 [7, 8, 9, 10, 11, 12, 13, 14, 15] (.pointer (some ⟨lb, lo, none⟩)) HS ?_; try simp only [sx]
  refine tk 7 [8, 9, 10, 11, 12, 13, 14, 15] (.pointer (some ⟨lb, lo + 1, none⟩)) HS ?_; try simp only [sx]
  refine tk 8 [9, 10, 11, 12, 13, 14, 15] (.int .u32 y) HS ?_; try simp only [sx]
  refine tk 9 [10, 11, 12, 13, 14, 15] (.int .u32 (y % 256)) HS ?_; try simp only [sx]
  refine tk 10 [11, 12, 13, 14, 15] (.int .u8 (y % 256)) HS ?_; try simp only [sx]
  have XA := (Ext.refl W1).drew.alloc (.cells #[.int .u8 (y % 256)] 5)
  have XC := (Ext.refl W1.drew).alloc (.cells #[.int .u8 (y % 256)] 5)
  have HS2 := And.intro (XC.cell HS.1) (XC.cell HS.2)
  have HN := hidden (rd_newc W1.drew [.int .u8 (y % 256)] 5 1 1 rfl (by decide))
  have HO := hidden (own_ext hrow XA)
  have hset := hidden (fun v' w1 => hset0 (W1.drew.alloc (.cells #[.int .u8 (y % 256)] 5)) w1 v' XA)
  refine valueD 11 (.slice (some ⟨W1.heap.size, 0, none⟩) 1 1) rfl rfl (by kernel_rfl) (by rfl) (w' := W1.drew.alloc (.cells #[.int .u8 (y % 256)] 5)) (by go_simp) (fun _ => HS2) ?_; try simp only [sx]
  refine appendD 12 rfl rfl rfl (by kernel_rfl) _ _ 46 (by rfl) B 5 i0 (.int .u8 0) 1 1 Tryz.underlying46 hia.out hz0 hz1 hz2 rfl (by decide) (.slice av n cv) n cs (by rfl) HO.out (some ⟨W1.heap.size, 0, none⟩) 1 1 [.int .u8 (y % 256)] (by rfl) HN.out (by simp [Value.oneCell']) (by unfold maxLen; omega) (by omega) (by have := hBW.out; have := XA.size; omega) (by omega) ?_
  intro v' w4 hown4 hgrow4 hat4
  obtain ⟨m1, m2, m3, m4, m5⟩ := hset.out v' w4 hown4 hgrow4 hat4
  obtain ⟨a4, c4, rfl, k41, k42, -⟩ := own_shape hown4
  clear hown4 hgrow4 hat4
  refine ⟨fun h => absurd (by decide) h, ?_⟩; try simp only [sx]
  refine valueD 13 (.pointer (some ⟨q, 0, none⟩)) rfl rfl (by kernel_rfl) (by rfl) (w' := w4) (by go_simp) (fun h => absurd (by decide) h) ?_; try simp only [sx]
  refine valueD 14 (.pointer (some ⟨q, 12, none⟩)) rfl rfl (by kernel_rfl) (by rfl) (w' := w4) (by go_simp) (fun h => absurd (by decide) h) ?_; try simp only [sx]
  refine storeD 15 rfl rfl (by kernel_rfl) (by rfl) (w' := w4.setCell ⟨q, 12, none⟩ (.slice a4 (n + 1) c4)) (by go_simp) (fun h => absurd (by decide) h) ?_
  refine wpAnyD_done (by kernel_rfl) ?_ _
  show _
  go_wp2_with fail
  go_ret2
  rw [← hR.out]
  exact ⟨_, _, rfl, Rd.nil _ 2, m1, m2, m3⟩
 ·have hdec : decide ((65536 : Int) ≤ (n : Int)) = true := decide_eq_true (by omega)
  have hdec2 : (65536 : Int) ≤ (n : Int) := by omega
  rw [if_neg hlt] at hR
  replace hR := hidden hR
  clear hs hE hi hV0 hn hcs hset0 hrow hl
  have X1I := hidden X1
  replace hW1 := hidden hW1
  clear h h1 X1 N1
  go_enter Tryz.func58, Tryz.ntmps58
  go_upto_region 1 with fail
  rw [hW1.out]
  clear hW1 hb
  go_wp2_with fail
  go_ret2
  rw [← hR.out]
  exact ⟨_, rfl, Chg.of_ext _ X1I.out⟩
theorem top_eq {op : Int} (h : 8 ≤ op ∧ op ≤ 26) : ((opAt op).2.2.1 == ⟨#[116]⟩) = ((opAt op).2.2.1.toList == [116]) := by
 have hc : op = 8 ∨ op = 9 ∨ op = 10 ∨ op = 11 ∨ op = 12 ∨ op = 13 ∨ op = 14 ∨ op = 15 ∨ op = 16 ∨ op = 17 ∨ op = 18 ∨ op = 19 ∨ op = 20 ∨ op = 21 ∨ op = 22 ∨ op = 23 ∨ op = 24 ∨ op = 25 ∨ op = 26 := by omega
 rcases hc with rfl | rfl | rfl | rfl | rfl | rfl | rfl | rfl | rfl | rfl | rfl | rfl | rfl | rfl | rfl | rfl | rfl | rfl | rfl <;> (rw [ByteArray.toList_eq]; first | rfl | decide)
theorem rpl_calc1 (arg : Int) (w : World) (B q : Nat) (V : Vs) (X : EV) (E : Env) (s : MS) (h : MSt LR w B q V X E s) (hB : B ≤ w.heap.size) (hs : OkS E s) (hE : OkE E) (op : Int) (h8 : 8 ≤ op ∧ op ≤ 26) (x : Int) (t0 : Bool) (vl : Value) (hl : Rd w 2 vl 1 ([(x, t0)].flatMap vcR)) (hx : U32 x) :
  Calls Tryz.prog 58 #[.pointer (some ⟨q, 0, none⟩), .agg #[.int .i64 op, .int .u32 arg], vl] w (PlP w B q V X E (if (apF op x 0).2 ≠ 0 then .error (apF op x 0).2 else .ok ([((apF op x 0).1, (opAt op).2.2.1 == ⟨#[116]⟩)], s))) := by
 obtain ⟨b, hb⟩ := ex w.heap.size
 obtain ⟨W1, hW1, X1, N1⟩ := alx w #[.int .i64 op, .int .u32 arg] [.int .i64 op, .int .u32 arg] 63 b hb
 obtain ⟨n0, n1⟩ := N1.c2
 have hI := hidden h
 have h1 := h.ext X1
 obtain ⟨lv, lc, rfl, -⟩ := Rd.shape hl
 obtain ⟨lb, lo, rfl, -, -⟩ := Rd.cells hl (by decide)
 have g1 := X1.cell (rd_at hl 1 _ rfl)
 have e0 : (op == 0) = false := by simp; omega
 have e1 : (op == 1) = false := by simp; omega
 have e2 : (op == 2) = false := by simp; omega
 have e3 : (op == 3) = false := by simp; omega
 have e4 : (op == 4) = false := by simp; omega
 have e5 : (op == 5) = false := by simp; omega
 have e6 : (op == 6) = false := by simp; omega
 have e7 : (op == 7) = false := by simp; omega
 have e32 : (op == 32) = false := by simp; omega
 have e33 : (op == 33) = false := by simp; omega
 have e34 : (op == 34) = false := by simp; omega
 have e35 : (op == 35) = false := by simp; omega
 have hap := hidden (rapply_any op x 0 hx.1 hx.2 (by decide) (by decide))
 have hef := hidden (reff_any op)
 have hpe := top_eq h8
 obtain ⟨ps, hps⟩ := ex ((opAt op).2.2.1)
 rw [hps] at hpe
 obtain ⟨ts, hts⟩ := ex ((opAt op).2.1)
 obtain ⟨rv, hrv⟩ := ex ((apF op x 0).1)
 obtain ⟨re, hre⟩ := ex ((apF op x 0).2)
 rw [hps] at hef ⊢
 rw [hts] at hef
 rw [hrv] at hap ⊢
 rw [hre] at hap ⊢
 obtain ⟨R, hR⟩ : ∃ R : Except Int (List Vl × MS), (if re ≠ 0 then .error re else .ok ([(rv, ps == ⟨#[116]⟩)], s)) = R := ⟨_, rfl⟩
 rw [hR]
 rw [hpe] at hR
 clear hpe
 replace hR := hidden hR
 clear hs hE h8 hx hps hts hrv hre hl
 have X1I := hidden X1
 replace hW1 := hidden hW1
 clear h h1 X1 N1
 go_enter Tryz.func58, Tryz.ntmps58
 go_upto_region 1 with fail
 rw [hW1.out]
 clear hW1 hb
 go_upto_region 42 with fail
 refine wp_region_D (S := fun w' => w'.cell? ⟨b, 0, none⟩ = some (.int .i64 op) ∧ w'.cell? ⟨lb, lo + 1, none⟩ = some (.int .u32 x)) (D := []) (by kernel_rfl) ⟨n0, g1⟩ (fun HS => ?_)
 refine tk 0 [] (.pointer (some ⟨b, 0, none⟩)) HS ?_; try simp only [sx]
 refine tk 1 [] (.int .i64 op) HS ?_; try simp only [sx]
 refine tk 2 [] (.slice (some ⟨lb, lo, none⟩) 1 lc) HS ?_; try simp only [sx]
 refine tk 3 [] (.pointer (some ⟨lb, lo, none⟩)) HS ?_; try simp only [sx]
 refine tk 4 [] (.pointer (some ⟨lb, lo + 1, none⟩)) HS ?_; try simp only [sx]
 refine tk 5 [] (.int .u32 x) HS ?_; try simp only [sx]
 refine tk 6 [] (.int .u32 0) HS ?_; try simp only [sx]
 refine callVD 7 83 #[.int .i64 op, .int .u32 x, .int .u32 0] rfl rfl (by kernel_rfl) (by rfl) (by go_simp) (hap.out _) ?_
 rintro x' w2 ⟨rfl, rfl⟩
 refine Or.inl ⟨_, rfl, fun _ => HS, ?_⟩
 try simp only [Act.put, sx]
 refine tk 8 [] (.tuple #[.int .u32 rv, .int .i64 re]) HS ?_; try simp only [sx]
 refine tk 9 [] (.int .u32 rv) HS ?_; try simp only [sx]
 refine tk 10 [] (.int .i64 re) HS ?_; try simp only [sx]
 refine tk 11 [] (.int .u32 rv) HS ?_; try simp only [sx]
 refine tk 12 [] (.int .i64 re) HS ?_; try simp only [sx]
 refine wpAnyD_done (by kernel_rfl) ?_ _
 show _
 go_wp2_with fail
 refine (hef.out _).mono ?_
 rintro x' w2 ⟨rfl, hw2⟩
 subst hw2
 go_wp2_with fail
 go_ret2
 by_cases hre : re = 0
 ·rw [← hR.out, if_neg (by simpa using hre), hre]
  exact pl_same hI.out (X1I.out.trans ((Ext.refl W1).drew.alloc _)) (rd_newc W1.drew [.bool (ps.toList == [116]), .int .u32 rv] 147 2 1 rfl (by decide))
 ·rw [← hR.out, if_pos hre]
  exact ⟨_, rfl, Chg.of_ext _ (X1I.out.trans ((Ext.refl W1).drew.alloc _))⟩
theorem rpl_calc2 (arg : Int) (w : World) (B q : Nat) (V : Vs) (X : EV) (E : Env) (s : MS) (h : MSt LR w B q V X E s) (hB : B ≤ w.heap.size) (hs : OkS E s) (hE : OkE E) (op : Int) (h8 : 8 ≤ op ∧ op ≤ 26) (x y : Int) (t0 t1 : Bool) (vl : Value) (hl : Rd w 2 vl 2 ([(x, t0), (y, t1)].flatMap vcR)) (hx : U32 x) (hy0 : U32 y) :
  Calls Tryz.prog 58 #[.pointer (some ⟨q, 0, none⟩), .agg #[.int .i64 op, .int .u32 arg], vl] w (PlP w B q V X E (if (apF op x y).2 ≠ 0 then .error (apF op x y).2 else .ok ([((apF op x y).1, (opAt op).2.2.1 == ⟨#[116]⟩)], s))) := by
 obtain ⟨b, hb⟩ := ex w.heap.size
 obtain ⟨W1, hW1, X1, N1⟩ := alx w #[.int .i64 op, .int .u32 arg] [.int .i64 op, .int .u32 arg] 63 b hb
 obtain ⟨n0, n1⟩ := N1.c2
 have hI := hidden h
 have h1 := h.ext X1
 obtain ⟨lv, lc, rfl, -⟩ := Rd.shape hl
 obtain ⟨lb, lo, rfl, -, -⟩ := Rd.cells hl (by decide)
 have g1 := X1.cell (rd_at hl 1 _ rfl)
 have g3 := X1.cell (rd_at hl 3 _ rfl)
 have e0 : (op == 0) = false := by simp; omega
 have e1 : (op == 1) = false := by simp; omega
 have e2 : (op == 2) = false := by simp; omega
 have e3 : (op == 3) = false := by simp; omega
 have e4 : (op == 4) = false := by simp; omega
 have e5 : (op == 5) = false := by simp; omega
 have e6 : (op == 6) = false := by simp; omega
 have e7 : (op == 7) = false := by simp; omega
 have e32 : (op == 32) = false := by simp; omega
 have e33 : (op == 33) = false := by simp; omega
 have e34 : (op == 34) = false := by simp; omega
 have e35 : (op == 35) = false := by simp; omega
 have hap := hidden (rapply_any op x y hx.1 hx.2 hy0.1 hy0.2)
 have hef := hidden (reff_any op)
 have hpe := top_eq h8
 obtain ⟨ps, hps⟩ := ex ((opAt op).2.2.1)
 rw [hps] at hpe
 obtain ⟨ts, hts⟩ := ex ((opAt op).2.1)
 obtain ⟨rv, hrv⟩ := ex ((apF op x y).1)
 obtain ⟨re, hre⟩ := ex ((apF op x y).2)
 rw [hps] at hef ⊢
 rw [hts] at hef
 rw [hrv] at hap ⊢
 rw [hre] at hap ⊢
 obtain ⟨R, hR⟩ : ∃ R : Except Int (List Vl × MS), (if re ≠ 0 then .error re else .ok ([(rv, ps == ⟨#[116]⟩)], s)) = R := ⟨_, rfl⟩
 rw [hR]
 rw [hpe] at hR
 clear hpe
 replace hR := hidden hR
 clear hs hE h8 hx hy0 hps hts hrv hre hl
 have X1I := hidden X1
 replace hW1 := hidden hW1
 clear h h1 X1 N1
 go_enter Tryz.func58, Tryz.ntmps58
 go_upto_region 1 with fail
 rw [hW1.out]
 clear hW1 hb
 go_upto_region 42 with fail
 refine wp_region_D (S := fun w' => w'.cell? ⟨b, 0, none⟩ = some (.int .i64 op) ∧ w'.cell? ⟨lb, lo + 1, none⟩ = some (.int .u32 x)) (D := []) (by kernel_rfl) ⟨n0, g1⟩ (fun HS => ?_)
 refine tk 0 [] (.pointer (some ⟨b, 0, none⟩)) HS ?_; try simp only [sx]
 refine tk 1 [] (.int .i64 op) HS ?_; try simp only [sx]
 refine tk 2 [] (.slice (some ⟨lb, lo, none⟩) 2 lc) HS ?_; try simp only [sx]
 refine tk 3 [] (.pointer (some ⟨lb, lo, none⟩)) HS ?_; try simp only [sx]
 refine tk 4 [] (.pointer (some ⟨lb, lo + 1, none⟩)) HS ?_; try simp only [sx]
 refine tk 5 [] (.int .u32 x) HS ?_; try simp only [sx]
 refine tk 6 [] (.int .u32 y) HS ?_; try simp only [sx]
 refine callVD 7 83 #[.int .i64 op, .int .u32 x, .int .u32 y] rfl rfl (by kernel_rfl) (by rfl) (by go_simp) (hap.out _) ?_
 rintro x' w2 ⟨rfl, rfl⟩
 refine Or.inl ⟨_, rfl, fun _ => HS, ?_⟩
 try simp only [Act.put, sx]
 refine tk 8 [] (.tuple #[.int .u32 rv, .int .i64 re]) HS ?_; try simp only [sx]
 refine tk 9 [] (.int .u32 rv) HS ?_; try simp only [sx]
 refine tk 10 [] (.int .i64 re) HS ?_; try simp only [sx]
 refine tk 11 [] (.int .u32 rv) HS ?_; try simp only [sx]
 refine tk 12 [] (.int .i64 re) HS ?_; try simp only [sx]
 refine wpAnyD_done (by kernel_rfl) ?_ _
 show _
 go_wp2_with fail
 refine (hef.out _).mono ?_
 rintro x' w2 ⟨rfl, hw2⟩
 subst hw2
 go_wp2_with fail
 go_ret2
 by_cases hre : re = 0
 ·rw [← hR.out, if_neg (by simpa using hre), hre]
  exact pl_same hI.out (X1I.out.trans ((Ext.refl W1).drew.alloc _)) (rd_newc W1.drew [.bool (ps.toList == [116]), .int .u32 rv] 147 2 1 rfl (by decide))
 ·rw [← hR.out, if_pos hre]
  exact ⟨_, rfl, Chg.of_ext _ (X1I.out.trans ((Ext.refl W1).drew.alloc _))⟩
def plF (E : Env) (op arg : Int) (l : List Vl) (s : MS) : Except Int (List Vl × MS) :=
 if op = 0 then (.ok ([(arg, false)], s)) else
 if op = 1 then (.ok ([(s.lo.getD arg.toNat 0, false)], s)) else
 if op = 2 then (.ok ([], { s with lo := s.lo.set arg.toNat (vl l 0).1 })) else
 if op = 3 then (if ((s.ar.getD arg.toNat []).length : Int) ≤ (vl l 0).1 then .error 16 else .ok ([((s.ar.getD arg.toNat []).getD (vl l 0).1.toNat 0, false)], s)) else
 if op = 4 then (if ((s.ar.getD arg.toNat []).length : Int) ≤ (vl l 0).1 then .error 16 else .ok ([], { s with ar := s.ar.set arg.toNat ((s.ar.getD arg.toNat []).set (vl l 0).1.toNat (if (E.A.getD arg.toNat (false, 0)).1 = true then (vl l 1).1 else (vl l 1).1 % 256)) })) else
 if op = 5 then (.ok ([vl l 0, vl l 0], s)) else
 if op = 6 then (.ok ([], s)) else
 if op = 7 then (.ok ([vl l 1, vl l 0], s)) else
 if op = 32 then (.ok ([(E.inp, false)], s)) else
 if op = 33 then (.ok ([(if E.ended = true then 1 else 0, true)], s)) else
 if op = 34 then (if s.out.length < 65536 then .ok ([], { s with out := s.out ++ [(vl l 0).1 % 256] }) else .error 5) else
 if op = 35 then (.ok ([], { s with cx := s.cx.set arg.toNat (vl l 0).1 })) else
 if (apF op (vl l 0).1 (calB l)).2 ≠ 0 then .error (apF op (vl l 0).1 (calB l)).2 else .ok ([((apF op (vl l 0).1 (calB l)).1, (opAt op).2.2.1 == ⟨#[116]⟩)], s)
theorem plF0 (E : Env) (arg : Int) (l : List Vl) (s : MS) : plF E 0 arg l s = .ok ([(arg, false)], s) := by unfold plF; (repeat rw [if_neg (by decide)]); rw [if_pos rfl]
theorem plF1 (E : Env) (arg : Int) (l : List Vl) (s : MS) : plF E 1 arg l s = .ok ([(s.lo.getD arg.toNat 0, false)], s) := by unfold plF; (repeat rw [if_neg (by decide)]); rw [if_pos rfl]
theorem plF2 (E : Env) (arg : Int) (l : List Vl) (s : MS) : plF E 2 arg l s = .ok ([], { s with lo := s.lo.set arg.toNat (vl l 0).1 }) := by unfold plF; (repeat rw [if_neg (by decide)]); rw [if_pos rfl]
theorem plF3 (E : Env) (arg : Int) (l : List Vl) (s : MS) : plF E 3 arg l s = if ((s.ar.getD arg.toNat []).length : Int) ≤ (vl l 0).1 then .error 16 else .ok ([((s.ar.getD arg.toNat []).getD (vl l 0).1.toNat 0, false)], s) := by unfold plF; (repeat rw [if_neg (by decide)]); rw [if_pos rfl]
theorem plF4 (E : Env) (arg : Int) (l : List Vl) (s : MS) : plF E 4 arg l s = if ((s.ar.getD arg.toNat []).length : Int) ≤ (vl l 0).1 then .error 16 else .ok ([], { s with ar := s.ar.set arg.toNat ((s.ar.getD arg.toNat []).set (vl l 0).1.toNat (if (E.A.getD arg.toNat (false, 0)).1 = true then (vl l 1).1 else (vl l 1).1 % 256)) }) := by unfold plF; (repeat rw [if_neg (by decide)]); rw [if_pos rfl]
theorem plF5 (E : Env) (arg : Int) (l : List Vl) (s : MS) : plF E 5 arg l s = .ok ([vl l 0, vl l 0], s) := by unfold plF; (repeat rw [if_neg (by decide)]); rw [if_pos rfl]
theorem plF6 (E : Env) (arg : Int) (l : List Vl) (s : MS) : plF E 6 arg l s = .ok ([], s) := by unfold plF; (repeat rw [if_neg (by decide)]); rw [if_pos rfl]
theorem plF7 (E : Env) (arg : Int) (l : List Vl) (s : MS) : plF E 7 arg l s = .ok ([vl l 1, vl l 0], s) := by unfold plF; (repeat rw [if_neg (by decide)]); rw [if_pos rfl]
theorem plF32 (E : Env) (arg : Int) (l : List Vl) (s : MS) : plF E 32 arg l s = .ok ([(E.inp, false)], s) := by unfold plF; (repeat rw [if_neg (by decide)]); rw [if_pos rfl]
theorem plF33 (E : Env) (arg : Int) (l : List Vl) (s : MS) : plF E 33 arg l s = .ok ([(if E.ended = true then 1 else 0, true)], s) := by unfold plF; (repeat rw [if_neg (by decide)]); rw [if_pos rfl]
theorem plF34 (E : Env) (arg : Int) (l : List Vl) (s : MS) : plF E 34 arg l s = if s.out.length < 65536 then .ok ([], { s with out := s.out ++ [(vl l 0).1 % 256] }) else .error 5 := by unfold plF; (repeat rw [if_neg (by decide)]); rw [if_pos rfl]
theorem plF35 (E : Env) (arg : Int) (l : List Vl) (s : MS) : plF E 35 arg l s = .ok ([], { s with cx := s.cx.set arg.toNat (vl l 0).1 }) := by unfold plF; (repeat rw [if_neg (by decide)]); rw [if_pos rfl]
theorem plFc (E : Env) (op arg : Int) (l : List Vl) (s : MS) (h : 8 ≤ op ∧ op ≤ 26) : plF E op arg l s = if (apF op (vl l 0).1 (calB l)).2 ≠ 0 then .error (apF op (vl l 0).1 (calB l)).2 else .ok ([((apF op (vl l 0).1 (calB l)).1, (opAt op).2.2.1 == ⟨#[116]⟩)], s) := by unfold plF; rw [if_neg (by omega : ¬ op = 0)]; rw [if_neg (by omega : ¬ op = 1)]; rw [if_neg (by omega : ¬ op = 2)]; rw [if_neg (by omega : ¬ op = 3)]; rw [if_neg (by omega : ¬ op = 4)]; rw [if_neg (by omega : ¬ op = 5)]; rw [if_neg (by omega : ¬ op = 6)]; rw [if_neg (by omega : ¬ op = 7)]; rw [if_neg (by omega : ¬ op = 32)]; rw [if_neg (by omega : ¬ op = 33)]; rw [if_neg (by omega : ¬ op = 34)]; rw [if_neg (by omega : ¬ op = 35)]
theorem len1 {α : Type} {l : List α} (h : l.length = 1) : ∃ x, l = [x] := List.length_eq_one_iff.1 h
theorem len2 {α : Type} {l : List α} (h : l.length = 2) : ∃ x y, l = [x, y] := by
 match l, h with
 | [x, y], _ => exact ⟨x, y, rfl⟩
theorem ty_calc {op : Int} (h : 8 ≤ op ∧ op ≤ 26) : (opAt op).2.1.size = 1 ∨ (opAt op).2.1.size = 2 := by
 have hc : op = 8 ∨ op = 9 ∨ op = 10 ∨ op = 11 ∨ op = 12 ∨ op = 13 ∨ op = 14 ∨ op = 15 ∨ op = 16 ∨ op = 17 ∨ op = 18 ∨ op = 19 ∨ op = 20 ∨ op = 21 ∨ op = 22 ∨ op = 23 ∨ op = 24 ∨ op = 25 ∨ op = 26 := by omega
 rcases hc with rfl | rfl | rfl | rfl | rfl | rfl | rfl | rfl | rfl | rfl | rfl | rfl | rfl | rfl | rfl | rfl | rfl | rfl | rfl <;> first | exact Or.inl rfl | exact Or.inr rfl
theorem rplain_any (op arg : Int) (ho : (0 ≤ op ∧ op ≤ 26) ∨ (32 ≤ op ∧ op ≤ 35)) (ha : U32 arg) (w : World) (B q : Nat) (V : Vs) (X : EV) (E : Env) (s : MS) (h : MSt LR w B q V X E s) (hB : B ≤ w.heap.size) (hs : OkS E s) (hE : OkE E) (hex : exiF E op arg = true) (hcx : op = 35 → arg < 16)
  (l : List Vl) (v : Value) (hl : l.length = (opAt op).2.1.size) (hlu : ∀ v ∈ l, U32 v.1) (hr : Rd w 2 v l.length (l.flatMap vcR)) :
  Calls Tryz.prog 58 #[.pointer (some ⟨q, 0, none⟩), .agg #[.int .i64 op, .int .u32 arg], v] w (PlP w B q V X E (plF E op arg l s)) := by
 by_cases hc8 : 8 ≤ op ∧ op ≤ 26
 ·rw [plFc E op arg l s hc8]
  rcases ty_calc hc8 with h1 | h2
  ·obtain ⟨⟨x, t⟩, rfl⟩ := len1 (hl.trans h1)
   exact rpl_calc1 arg w B q V X E s h hB hs hE op hc8 x t v hr (hlu (x, t) (by simp))
  ·obtain ⟨⟨x, t⟩, ⟨y, u⟩, rfl⟩ := len2 (hl.trans h2)
   exact rpl_calc2 arg w B q V X E s h hB hs hE op hc8 x y t u v hr (hlu (x, t) (by simp)) (hlu (y, u) (by simp))
 ·have hc : op = 0 ∨ op = 1 ∨ op = 2 ∨ op = 3 ∨ op = 4 ∨ op = 5 ∨ op = 6 ∨ op = 7 ∨ op = 32 ∨ op = 33 ∨ op = 34 ∨ op = 35 := by omega
  obtain ⟨k, hk⟩ := Int.eq_ofNat_of_zero_le ha.1
  have hkl : (op = 1 ∨ op = 2) → k < s.lo.length := fun ho => by
   have h2 := hs.lo
   unfold exiF at hex
   rw [if_pos ho] at hex
   have := of_decide_eq_true hex
   omega
  have hka : (op = 3 ∨ op = 4) → k < s.ar.length := fun ho => by
   have h2 := hs.ar
   unfold exiF at hex
   rw [if_neg (by omega), if_pos ho] at hex
   have := of_decide_eq_true hex
   omega
  rcases hc with rfl | rfl | rfl | rfl | rfl | rfl | rfl | rfl | rfl | rfl | rfl | rfl
  ·rw [plF0]; exact rpl_0 arg w B q V X E s h hB hs hE v
  ·rw [plF1, hk, Int.toNat_natCast]; exact rpl_1 k w B q V X E s h hB hs hE v (hkl (by decide))
  ·obtain ⟨⟨x, t⟩, rfl⟩ := len1 (l := l) hl
   rw [plF2, hk, Int.toNat_natCast]; exact rpl_2 k w B q V X E s h hB hs hE x t v hr (hkl (by decide))
  ·obtain ⟨⟨x, t⟩, rfl⟩ := len1 (l := l) hl
   rw [plF3, hk, Int.toNat_natCast]; exact rpl_3 k w B q V X E s h hB hs hE x t v hr (hlu (x, t) (by simp)) (hka (by decide))
  ·obtain ⟨⟨x, t⟩, ⟨y, u⟩, rfl⟩ := len2 (l := l) hl
   rw [plF4, hk, Int.toNat_natCast]; exact rpl_4 k w B q V X E s h hB hs hE x y t u v hr (hlu (x, t) (by simp)) (hlu (y, u) (by simp)) (hka (by decide))
  ·obtain ⟨⟨x, t⟩, rfl⟩ := len1 (l := l) hl
   rw [plF5]; exact rpl_5 arg w B q V X E s h hB hs hE x t v hr
  ·rw [plF6]; exact rpl_6 arg w B q V X E s h hB hs hE v
  ·obtain ⟨⟨x, t⟩, ⟨y, u⟩, rfl⟩ := len2 (l := l) hl
   rw [plF7]; exact rpl_7 arg w B q V X E s h hB hs hE x y t u v hr
  ·rw [plF32]; exact rpl_32 arg w B q V X E s h hB hs hE v
  ·rw [plF33]; exact rpl_33 arg w B q V X E s h hB hs hE v
  ·obtain ⟨⟨x, t⟩, rfl⟩ := len1 (l := l) hl
   rw [plF34]; exact rpl_34 arg w B q V X E s h hB hs hE x t v hr (hlu (x, t) (by simp))
  ·obtain ⟨⟨x, t⟩, rfl⟩ := len1 (l := l) hl
   have hk2 : k < s.cx.length := by have := hs.cx; have := hcx rfl; omega
   rw [plF35, hk, Int.toNat_natCast]; exact rpl_35 k w B q V X E s h hB hs hE x t v hr hk2
def plR (r : Except Int (List Vl × MS)) : Rs := match r with
 | .error e => .err e
 | .ok (l, s) => pushF l s
theorem push_nil {E : Env} {s : MS} (h : s.st.length ≤ 32) : pushF [] s = .go s := by unfold pushF; rw [List.append_nil, if_neg (by omega)]
theorem exe_pl {E : Env} {op arg : Int} (ho : (0 ≤ op ∧ op ≤ 26) ∨ (32 ≤ op ∧ op ≤ 35)) {l : List Vl} {s : MS} (hs : s.st.length ≤ 32) : exeF E op arg l s = plR (plF E op arg l s) := by
 by_cases hc8 : 8 ≤ op ∧ op ≤ 26
 ·rw [plFc E op arg l s hc8]
  unfold exeF calcF
  rw [if_neg (by omega : ¬ op = 0)]; rw [if_neg (by omega : ¬ op = 1)]; rw [if_neg (by omega : ¬ op = 2)]; rw [if_neg (by omega : ¬ op = 3)]; rw [if_neg (by omega : ¬ op = 4)]; rw [if_neg (by omega : ¬ op = 5)]; rw [if_neg (by omega : ¬ op = 6)]; rw [if_neg (by omega : ¬ op = 7)]; rw [if_neg (by omega : ¬ op = 27)]; rw [if_neg (by omega : ¬ op = 28)]; rw [if_neg (by omega : ¬ op = 29)]; rw [if_neg (by omega : ¬ op = 30)]; rw [if_neg (by omega : ¬ op = 31)]; rw [if_neg (by omega : ¬ op = 32)]; rw [if_neg (by omega : ¬ op = 33)]; rw [if_neg (by omega : ¬ op = 34)]; rw [if_neg (by omega : ¬ op = 35)]
  unfold plR
  by_cases hz : (apF op (vl l 0).1 (calB l)).2 ≠ 0
  ·rw [if_pos hz, if_pos hz]
  ·rw [if_neg hz, if_neg hz]
 ·have hc : op = 0 ∨ op = 1 ∨ op = 2 ∨ op = 3 ∨ op = 4 ∨ op = 5 ∨ op = 6 ∨ op = 7 ∨ op = 32 ∨ op = 33 ∨ op = 34 ∨ op = 35 := by omega
  rcases hc with rfl | rfl | rfl | rfl | rfl | rfl | rfl | rfl | rfl | rfl | rfl | rfl
  ·rw [exe0, plF0]; rfl
  ·rw [exe1, plF1]; rfl
  ·rw [exe2, plF2]; exact (push_nil (E := E) (s := { s with lo := s.lo.set arg.toNat (vl l 0).1 }) hs).symm
  ·rw [exe3, plF3]; unfold getF plR; split <;> rfl
  ·rw [exe4, plF4]; unfold putF plR
   split
   ·rfl
   ·exact (push_nil (E := E) (by exact hs)).symm
  ·rw [exe5, plF5]; rfl
  ·rw [exe6, plF6]; exact (push_nil (E := E) hs).symm
  ·rw [exe7, plF7]; rfl
  ·rw [exe32, plF32]; rfl
  ·rw [exe33, plF33]; rfl
  ·rw [exe34, plF34]; unfold emitF plR
   split
   ·exact (push_nil (E := E) (by exact hs)).symm
   ·rfl
  ·rw [exe35, plF35]; exact (push_nil (E := E) (s := { s with cx := s.cx.set arg.toNat (vl l 0).1 }) hs).symm
def NoZ (r : Except Int (List Vl × MS)) : Prop := ∀ e, r = .error e → e ≠ 0
theorem NoZ.ok (x : List Vl × MS) : NoZ (.ok x) := fun e h => by cases h
theorem NoZ.err {e : Int} (h : e ≠ 0) : NoZ (.error e) := fun e' h' => by cases h'; exact h
theorem pl_err {E : Env} {op arg : Int} {l : List Vl} {s : MS} {e : Int} (h : plF E op arg l s = .error e) : e ≠ 0 := by
 have : NoZ (plF E op arg l s) := by
  unfold plF
  repeat' (first | exact NoZ.ok _ | exact NoZ.err (by decide) | exact NoZ.err (by assumption) | refine ite_both NoZ (fun hc => ?_) (fun hc => ?_))
 exact this e h
def ifR (E : Env) (c : Int) (s : MS) : Rs :=
 if c ≠ 0 then (if 8 ≤ s.fr.length then .stuck else .go { s with fr := s.fr ++ [⟨s.st.length, s.pc, 0, false⟩] }) else
 match toF E s.pc with
 | none => .stuck
 | some t => if opC E.C t = 31 then .go { s with pc := t } else if opC E.C t = 28 then (if 8 ≤ s.fr.length then .stuck else .go { s with fr := s.fr ++ [⟨s.st.length, s.pc, 0, false⟩], pc := t }) else .stuck
def blkR (E : Env) (op arg : Int) (l : List Vl) (s : MS) : Rs := if op = 27 then ifR E (vl l 0).1 s else exeF E op arg l s
def endR (E : Env) (op : Int) (s : MS) : Rs :=
 match s.fr.getLast? with
 | none => .stuck
 | some f => if (s.st.length : Int) ≠ f.base then .err 14 else
  if op = 28 then (match toF E s.pc with
   | none => .stuck
   | some t => .go { s with pc := t, fr := s.fr.dropLast }) else endF E s
def execR (E : Env) (s : MS) : Rs :=
 if opS E s = 28 ∨ opS E s = 31 then endR E (opS E s) s else
 if ¬ s.steps < E.fuel then .err 19 else
 if exiF E (opS E s) (argS E s) = false then .err 2 else
 match popF (opAt (opS E s)).2.1.data.toList s.st (baseF s.fr) with
 | .error e => .err e
 | .ok (l, r) => blkR E (opS E s) (argS E s) l { s with st := r, steps := s.steps + 1 }
theorem run_succ {E : Env} {n : Nat} {s : MS} {R : Out} (h : runN E n s = some R) (h1 : s.pc < E.C.length) : ∃ k, n = k + 1 ∧ match stepF E s with
  | .stuck => False
  | .err e => R = .error e
  | .go s' => runN E k s' = some R := by
 cases n with
 | zero => cases h
 | succ k =>
  refine ⟨k, rfl, ?_⟩
  unfold runN at h
  rw [if_neg (by omega)] at h
  cases hs : stepF E s with
  | stuck => rw [hs] at h; cases h
  | err e => rw [hs] at h; simp only [Option.some.injEq] at h; exact h.symm
  | go s' => rw [hs] at h; exact h
theorem pop_nil {st : List Vl} {b : Int} (h : b ≤ st.length) : popF [] st b = .ok ([], st) := by
 unfold popF
 rw [if_neg (by simp only [List.length_nil]; omega)]
 simp only [List.length_nil, Nat.sub_zero, List.drop_length, List.take_length]
 rfl
theorem pop_nil_err {st : List Vl} {b : Int} (h : ¬ b ≤ st.length) : popF [] st b = .error 14 := by
 unfold popF
 rw [if_pos (by simp only [List.length_nil]; omega)]
theorem exi28 (E : Env) (a : Int) : exiF E 28 a = true := by unfold exiF; rw [if_neg (by decide), if_neg (by decide)]
theorem exi31 (E : Env) (a : Int) : exiF E 31 a = true := by unfold exiF; rw [if_neg (by decide), if_neg (by decide)]
theorem step_end {E : Env} {s : MS} {op : Int} (h : opS E s = op) (ho : op = 28 ∨ op = 31) : stepF E s = if baseF s.fr ≤ s.st.length then nextF (exeF E op (argS E s) [] s) else .err 14 := by
 have hex : exiF E op (argS E s) = true := by rcases ho with rfl | rfl; exact exi28 _ _; exact exi31 _ _
 have hty : (opAt op).2.1.data.toList = [] := by rcases ho with rfl | rfl <;> rfl
 unfold stepF
 rw [if_neg (by intro hh; exact hh.1 (by rw [h]; exact ho)), h, hex, if_neg (by decide), hty]
 by_cases hb : baseF s.fr ≤ s.st.length
 ·rw [pop_nil hb, if_pos hb]
  show nextF (exeF E op (argS E s) [] (s1F E s s.st)) = _
  have : s1F E s s.st = s := by unfold s1F; rw [if_pos (by rw [h]; exact ho)]
  rw [this]
 ·rw [pop_nil_err hb, if_neg hb]
theorem step31 {E : Env} {s : MS} {f : Frm} (h : opS E s = 31) (hf : s.fr.getLast? = some f) (hb : (s.st.length : Int) = f.base) (hl : f.loop = false) : stepF E s = .go { s with fr := s.fr.dropLast, pc := s.pc + 1 } := by
 rw [step_end h (Or.inr rfl), if_pos (by unfold baseF; rw [hf]; simp only; omega), exe31]
 unfold endF
 rw [hf]
 simp only
 rw [if_neg (by omega), if_neg (by rw [hl]; intro hh; exact absurd hh.1 (by decide))]
 rfl
theorem exec_run {E : Env} (hE : OkE E) {s : MS} (hs : OkS E s) (h0 : 0 ≤ s.pc) (h1 : s.pc < E.C.length) {n : Nat} {R : Out} (h : runN E n s = some R) : match execR E s with
  | .stuck => False
  | .err e => R = .error e
  | .go s' => ∃ m, m < n ∧ runN E m { s' with pc := s'.pc + 1 } = some R ∧ OkS E { s' with pc := s'.pc + 1 } ∧ 0 ≤ s'.pc + 1 ∧ s'.pc + 1 ≤ E.C.length := by
 obtain ⟨k, rfl, hk⟩ := run_succ h h1
 have one : ∀ r, stepF E s = nextF r → match r with
  | .stuck => False
  | .err e => R = .error e
  | .go s' => ∃ m, m < k + 1 ∧ runN E m { s' with pc := s'.pc + 1 } = some R ∧ OkS E { s' with pc := s'.pc + 1 } ∧ 0 ≤ s'.pc + 1 ∧ s'.pc + 1 ≤ E.C.length := by
  intro r hr
  rw [hr] at hk
  cases r with
  | stuck => exact hk
  | err e => exact hk
  | go s' =>
   have := keeps_step hE hs h0 h1 hr
   exact ⟨k, by omega, hk, this.1, this.2.1, this.2.2⟩
 have two : ∀ s1 s2, stepF E s = .go s1 → s1.pc < E.C.length → stepF E s1 = .go s2 → ∃ m, m < k + 1 ∧ runN E m s2 = some R ∧ OkS E s2 ∧ 0 ≤ s2.pc ∧ s2.pc ≤ E.C.length := by
  intro s1 s2 e1 hlt e2
  rw [e1] at hk
  simp only at hk
  obtain ⟨k2, rfl, hk2⟩ := run_succ hk hlt
  rw [e2] at hk2
  have q1 := keeps_step hE hs h0 h1 e1
  have q2 := keeps_step hE q1.1 q1.2.1 hlt e2
  exact ⟨k2, by omega, hk2, q2.1, q2.2.1, q2.2.2⟩
 by_cases hop : opS E s = 28 ∨ opS E s = 31
 ·unfold execR
  rw [if_pos hop]
  have hst := step_end rfl hop
  unfold endR
  cases hl : s.fr.getLast? with
  | none =>
   have hb0 : baseF s.fr = 0 := by unfold baseF; rw [hl]
   rw [hst, if_pos (by rw [hb0]; omega)] at hk
   rcases hop with ho | ho
   ·rw [ho, exe28] at hk; unfold otherF at hk; rw [hl] at hk; exact hk
   ·rw [ho, exe31] at hk; unfold endF at hk; rw [hl] at hk; exact hk
  | some f =>
   have hb0 : baseF s.fr = f.base := by unfold baseF; rw [hl]
   simp only
   by_cases hne : (s.st.length : Int) ≠ f.base
   ·rw [if_pos hne]
    by_cases hle : baseF s.fr ≤ s.st.length
    ·rw [hst, if_pos hle] at hk
     rcases hop with ho | ho
     ·rw [ho, exe28] at hk; unfold otherF at hk; rw [hl] at hk; simp only at hk; rw [if_pos hne] at hk; exact hk
     ·rw [ho, exe31] at hk; unfold endF at hk; rw [hl] at hk; simp only at hk; rw [if_pos hne] at hk; exact hk
    ·rw [hst, if_neg hle] at hk; exact hk
   ·rw [if_neg hne]
    have hle : baseF s.fr ≤ s.st.length := by omega
    rw [if_pos hle] at hst
    by_cases ho : opS E s = 28
    ·rw [if_pos ho]
     rw [ho, exe28] at hst
     unfold otherF at hst
     rw [hl] at hst
     simp only at hst
     rw [if_neg hne] at hst
     cases ht : toF E s.pc with
     | none => rw [ht] at hst; rw [hst] at hk; exact hk
     | some t =>
      rw [ht] at hst
      simp only at hst
      by_cases hc : opC E.C t = 31 ∧ f.loop = false
      ·rw [if_pos hc] at hst
       have htl := (toF_some ht).2.2.2
       obtain ⟨m, q1, q2, q3, q4, q5⟩ := two { s with pc := (t : Int) - 1 + 1 } { s with fr := s.fr.dropLast, pc := (t : Int) - 1 + 1 + 1 } hst (by show (t : Int) - 1 + 1 < _; omega)
        (step31 (s := { s with pc := (t : Int) - 1 + 1 }) (by unfold opS; show (E.C.getD ((t : Int) - 1 + 1).toNat (0, 0)).1 = 31; rw [show (t : Int) - 1 + 1 = (t : Int) by omega, Int.toNat_natCast]; exact hc.1) hl (by show (s.st.length : Int) = _; omega) hc.2)
       rw [show (t : Int) - 1 + 1 + 1 = (t : Int) + 1 by omega] at q2 q3 q4 q5
       exact ⟨m, q1, q2, q3, q4, q5⟩
      ·rw [if_neg hc] at hst; rw [hst] at hk; exact hk.elim
    ·rw [if_neg ho]
     have ho2 : opS E s = 31 := by omega
     rw [ho2, exe31] at hst
     exact one _ hst
 ·unfold execR
  rw [if_neg hop]
  by_cases hf : ¬ s.steps < E.fuel
  ·rw [if_pos hf]
   have : stepF E s = .err 19 := by unfold stepF; rw [if_pos ⟨hop, hf⟩]
   rw [this] at hk; exact hk
  ·rw [if_neg hf]
   have h2 : stepF E s = if exiF E (opS E s) (argS E s) = false then .err 2 else match popF (opAt (opS E s)).2.1.data.toList s.st (baseF s.fr) with
     | .error e => .err e
     | .ok (l, r) => nextF (exeF E (opS E s) (argS E s) l (s1F E s r)) := by unfold stepF; rw [if_neg (fun hh => hf hh.2)]; rfl
   by_cases hx : exiF E (opS E s) (argS E s) = false
   ·rw [if_pos hx] at h2 ⊢; rw [h2] at hk; exact hk
   ·rw [if_neg hx] at h2 ⊢
    cases hp : popF (opAt (opS E s)).2.1.data.toList s.st (baseF s.fr) with
    | error e => rw [hp] at h2; rw [h2] at hk; exact hk
    | ok lr =>
     obtain ⟨l, r⟩ := lr
     rw [hp] at h2
     simp only at h2 ⊢
     have hs1 : s1F E s r = { s with st := r, steps := s.steps + 1 } := by unfold s1F; rw [if_neg hop]
     rw [hs1] at h2
     unfold blkR
     by_cases ho : opS E s = 27
     ·rw [if_pos ho]
      rw [ho, exe27] at h2
      unfold chooseF at h2
      unfold ifR
      by_cases h8 : 8 ≤ s.fr.length
      ·rw [if_pos (show 8 ≤ ({ s with st := r, steps := s.steps + 1 } : MS).fr.length from h8)] at h2; rw [h2] at hk; exact hk.elim
      ·rw [if_neg (show ¬ 8 ≤ ({ s with st := r, steps := s.steps + 1 } : MS).fr.length from h8)] at h2
       simp only at h2 ⊢
       by_cases hc : (vl l 0).1 ≠ 0
       ·rw [if_pos hc] at h2 ⊢
        rw [if_neg h8]
        exact one _ h2
       ·rw [if_neg hc] at h2 ⊢
        cases ht : toF E s.pc with
        | none => rw [ht] at h2; rw [h2] at hk; exact hk
        | some t =>
         rw [ht] at h2
         simp only at h2 ⊢
         by_cases h31 : opC E.C t = 31
         ·rw [if_pos h31] at h2 ⊢
          have htl := (toF_some ht).2.2.2
          obtain ⟨m, q1, q2, q3, q4, q5⟩ := two _ { s with st := r, steps := s.steps + 1, pc := (t : Int) - 1 + 1 + 1 } h2 (by show (t : Int) - 1 + 1 < _; omega)
           (by
            rw [step31 (f := ⟨r.length, s.pc, 0, false⟩) (by unfold opS; show (E.C.getD ((t : Int) - 1 + 1).toNat (0, 0)).1 = 31; rw [show (t : Int) - 1 + 1 = (t : Int) by omega, Int.toNat_natCast]; exact h31) (by simp) rfl rfl]
            simp)
          rw [show (t : Int) - 1 + 1 + 1 = (t : Int) + 1 by omega] at q2 q3 q4 q5
          exact ⟨m, q1, q2, q3, q4, q5⟩
         ·rw [if_neg h31] at h2 ⊢
          by_cases h28 : opC E.C t = 28
          ·rw [if_pos h28] at h2 ⊢
           rw [if_neg h8]
           exact one _ h2
          ·rw [if_neg h28] at h2; rw [h2] at hk; exact hk.elim
     ·rw [if_neg ho]
      exact one _ h2
theorem set3_ext {w w' : World} {z : Nat} (h : Ext w w') (hz : w.heap.size ≤ z) (a' b' c' : Value) : Ext w (((w'.setCell ⟨z, 0, none⟩ a').setCell ⟨z, 1, none⟩ b').setCell ⟨z, 2, none⟩ c') :=
 ((Chg.of_ext [] h).trans ((((Chg.refl [z] w').setCell (p := ⟨z, 0, none⟩) (Or.inl (by simp)) a').setCell (p := ⟨z, 1, none⟩) (Or.inl (by simp)) b').setCell (p := ⟨z, 2, none⟩) (Or.inl (by simp)) c') (fun x hx => Or.inr (by rw [List.mem_singleton.1 hx]; exact hz))).ext
theorem skipD {P : Program} {md : Region.Mode} {ops : Array Oper} {Q : Exit → Act → World → Prop} {S : World → Prop} {D : List Nat} (i : Nat) (Di : List Nat) {oi : Oper} {d : Tmp} {fuel : Nat} {listed : Array Bool} {a : Act} {w : World} (hi : ops[i]? = some oi) (hd : oi.dst = some d)
  (hs : Region.noSelect ops = true) (hf : Region.free md ops listed i = true) (hr : (Region.ready md ops listed).contains i = true) (hcl : closedB md ops i Di = true) (hsub : ∀ j ∈ D, j ∈ Di) (hun : ∀ j ∈ Di, listed.getD j true = false)
  (hQ : ∀ c a w, Q (.panic c) (a.put oi.dst undef) w → Q (.panic c) a w) (hw : Region.wanted oi (yielded ops a.tmps) = false) (hS : S w)
  (h : wpAnyD P md ops Q S D fuel (listed.setIfInBounds i true) { a with tmps := a.tmps.setIfInBounds d undef } w) : wpAnyD P md ops Q S D (fuel + 1) listed a w :=
 wpAnyD_first hi (Region.noSelect_spec hs) hQ hsub (closedB_spec hcl) fuel listed a w (Region.free_spec hi hf) hun (by simpa using hr) (Or.inr ⟨hw, rfl⟩) hS (by rw [hd]; exact h)
theorem set_left3 {fr : List Frm} {f : Frm} (h : fr.getLast? = some f) (x : Int) : (fr.flatMap fcR).set ((fr.length - 1) * 3 + 2) (.int .i64 x) = (fr.dropLast ++ [{ f with left := x }]).flatMap fcR := by
 have hs := last_split h
 generalize fr.dropLast = A at hs ⊢
 subst hs
 have hfl : (A.flatMap fcR).length = A.length * 3 := flat_len fcR 3 (fun _ => rfl) A
 rw [List.flatMap_append, List.flatMap_append, List.length_append, List.length_singleton, Nat.add_sub_cancel, ← hfl, List.set_append_right _ _ (by omega)]
 simp only [List.flatMap_cons, List.flatMap_nil, List.append_nil, Nat.add_sub_cancel_left]
 rfl
end Go.Proofs.YtgjjklajipekdaaGreat
