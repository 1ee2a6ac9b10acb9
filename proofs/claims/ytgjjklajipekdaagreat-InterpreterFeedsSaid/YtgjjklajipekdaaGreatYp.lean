
import Derived.Test.YtgjjklajipekdaaGreatYm
import Derived.Test.YtgjjklajipekdaaGreatIf
import Derived.Test.YtgjjklajipekdaaGreatT
import Derived.Deep.LoopGhost
import Derived.Deep.Cut
namespace Go.Proofs.YtgjjklajipekdaaGreat
set_option maxHeartbeats 16000000
set_option maxRecDepth 100000
open Go.RowKit
set_option linter.unusedVariables false
set_option linter.unusedSimpArgs false
attribute [local go_sem ↓] Go.wp_at_zero Go.wp_at_succ
theorem exeC (E : Env) (op arg : Int) (l : List Vl) (s : MS) (h0 : 8 ≤ op) (h1 : op ≤ 26) : exeF E op arg l s = calcF op l s := by unfold exeF; (repeat rw [if_neg (by omega)])
theorem pops_tab : (List.range 36).all (fun k => decide ((opAt (k : Int)).2.1.size ≤ 2) && (decide (k < 8 ∨ 26 < k) || decide (1 ≤ (opAt (k : Int)).2.1.size))) = true := by decide +kernel
theorem push_tab : (List.range 36).all (fun k => ((opAt (k : Int)).2.2.1 == ⟨#[116]⟩) == ((opAt (k : Int)).2.2.1.toList == [116])) = true := by decide +kernel
theorem push_eq {op : Int} (h0 : 8 ≤ op) (h1 : op ≤ 26) : ((opAt op).2.2.1 == ⟨#[116]⟩) = ((opAt op).2.2.1.toList == [116]) := by
 obtain ⟨n, rfl⟩ := Int.eq_ofNat_of_zero_le (show 0 ≤ op by omega)
 have := List.all_eq_true.1 push_tab n (by simp; omega)
 simpa using this
theorem pops_size {op : Int} (h0 : 8 ≤ op) (h1 : op ≤ 26) : 1 ≤ (opAt op).2.1.size ∧ (opAt op).2.1.size ≤ 2 := by
 obtain ⟨n, rfl⟩ := Int.eq_ofNat_of_zero_le (show 0 ≤ op by omega)
 have := List.all_eq_true.1 pops_tab n (by simp; omega)
 simp only [Bool.and_eq_true, Bool.or_eq_true, decide_eq_true_eq] at this
 omega
theorem m_calculate (op : Int) (h0 : 8 ≤ op) (h1 : op ≤ 26) : Meth 74 op := by
 intro w B q V X E s arg l v h
 rw [exeC E op arg l s h0 h1]
 obtain ⟨hs0, hs1⟩ := pops_size h0 h1
 have hll := h.ll
 rw [← hll] at hs0 hs1
 have hef := fun W => ieffect_any op W
 have hpe := push_eq h0 h1
 unfold calcF
 rw [hpe]
 clear hpe
 obtain ⟨ps, hps⟩ := ex ((opAt op).2.2.1)
 obtain ⟨pp, hpp⟩ := ex ((opAt op).2.1)
 obtain ⟨po, hpo⟩ := ex (isOp op)
 simp only [hps, hpp, hpo] at hef ⊢
 replace hef := hidden hef
 replace hps := hidden hps
 replace hpp := hidden hpp
 replace hpo := hidden hpo
 have u0 : U32 (vl l 0).1 := u32_vl h.lu 0
 have u1 : U32 (vl l 1).1 := u32_vl h.lu 1
 obtain ⟨b, o, capl, rfl, hbq, hbl, hc0, -⟩ := h.v0 0 (by omega)
 obtain ⟨x0, hx0⟩ := ex ((vl l 0).1)
 rw [hx0] at hc0 u0 ⊢
 simp only [Nat.zero_mul, Nat.add_zero] at hc0
 replace hx0 := hidden hx0
 by_cases hl2 : l.length = 2
 ·obtain ⟨b', o', cap', he', -, -, hc1, -⟩ := h.v0 1 (by omega)
  simp only [Value.slice.injEq, Option.some.injEq, Addr.mk.injEq, and_true, true_and] at he'
  obtain ⟨⟨rfl, rfl⟩, rfl⟩ := he'
  obtain ⟨x1, hx1⟩ := ex ((vl l 1).1)
  have hcb : calB l = x1 := by unfold calB; rw [if_pos (by omega)]; exact hx1
  rw [hx1] at hc1 u1
  rw [hcb, hl2]
  simp only [Nat.one_mul] at hc1
  replace hx1 := hidden hx1
  obtain ⟨R, hR⟩ : ∃ R, (if (apF op x0 x1).2 ≠ 0 then Rs.err (apF op x0 x1).2 else pushF [((apF op x0 x1).1, ps.toList == [116])] s) = R := ⟨_, rfl⟩
  rw [hR]
  clear hcb hll
  replace hl2 := hidden hl2
  have hap := hidden (fun W => iapply_any op x0 x1 u0.1 u0.2 u1.1 u1.2 W)
  obtain ⟨rv, hrv⟩ := ex ((apF op x0 x1).1)
  obtain ⟨re, hree⟩ := ex ((apF op x0 x1).2)
  rw [hrv, hree] at hap hR
  have hd1 := hidden (idem_true re)
  have hd0 := hidden (idem_false re)
  replace hrv := hidden hrv
  replace hree := hidden hree
  have hp := fun W c => push1 h.m h.hb h.ok W c rv (ps.toList == [116])
  replace hp := hidden hp
  replace hR := hidden hR
  have XW := (Ext.refl w).alloc (.cells #[.int .i64 op, .int .u32 arg] 63)
  have BW := Blk.new w [.int .i64 op, .int .u32 arg] 63
  obtain ⟨b0, b1⟩ := BW.c2
  have zlt := BW.lt
  have d0 := XW.cell hc0
  have d1 := XW.cell hc1
  have hX := hidden XW
  clear h hc0 BW XW hc1
  go_enter Tryz.func74, Tryz.ntmps74
  go_wp2_with fail
  obtain ⟨z, hz⟩ := ex w.heap.size
  obtain ⟨W, hW⟩ := ex (w.alloc (.cells #[.int .i64 op, .int .u32 arg] 63))
  simp only [hz, hW] at b0 b1 zlt d0 d1 hX ⊢
  replace hz := hidden hz
  replace hW := hidden hW
  clear d1
  refine wp_region_held_drew (S := fun _ => True) (by kernel_rfl) trivial (fun HS => ?_)
  refine tkh 0 (.pointer (some ⟨z, 0, none⟩)) trivial ?_; try simp only [sx]
  refine tkh 2 (.slice (some ⟨b, o, none⟩) 2 capl) trivial ?_; try simp only [sx]
  refine tkh 3 (.pointer (some ⟨b, o, none⟩)) trivial ?_; try simp only [sx]
  refine tkh 4 (.pointer (some ⟨b, o, none⟩)) trivial ?_; try simp only [sx]
  refine tkh 6 (.int .u32 x1) trivial ?_; try simp only [sx]
  refine loads2H 1 5 (.int .i64 op) (.int .u32 x0) rfl rfl rfl rfl (by decide) (by decide) (by kernel_rfl) (by kernel_rfl) (by kernel_rfl) rfl rfl (by go_simp) (by go_simp) (by go_simp) (by go_simp) ?_; try simp only [sx]
  refine callHP 7 111 #[.int .i64 op, .int .u32 x0, .int .u32 x1] rfl (by kernel_rfl) (by rfl) (by go_simp) (hap.out W.drew) ?_
  rintro x w1 ⟨rfl, hX1⟩
  have hc := hidden (hX.out.drew.trans hX1)
  have e0 := hX1.cell b0
  clear hX1 d0 b1 b0
  refine Or.inl ⟨_, rfl, trivial, ?_⟩
  try simp only [Act.put, sx]
  refine tkh 8 (.tuple #[.int .u32 rv, .int .i64 re]) trivial ?_; try simp only [sx]
  refine tkh 9 (.int .u32 rv) trivial ?_; try simp only [sx]
  refine tkh 10 (.int .i64 re) trivial ?_; try simp only [sx]
  refine tkh 11 (.int .u32 rv) trivial ?_; try simp only [sx]
  refine tkh 12 (.int .i64 re) trivial ?_; try simp only [sx]
  refine wpAnyH_done (by kernel_rfl) ?_ _
  show _
  by_cases hre : re = 0
  ·subst hre
   have hr0 := hR.out
   rw [if_neg (by decide)] at hr0
   clear hR
   have hR := hidden hr0
   clear hr0
   go_wp2_with fail
   refine (hd1.out _).mono ?_
   rintro x w2 ⟨rfl, hw2⟩
   rw [hw2]
   clear hw2
   go_wp2_with fail
   refine (hef.out _).mono ?_
   rintro x w3 ⟨rfl, hX3⟩
   have hc3 := hidden (hc.out.trans hX3)
   clear hX3 e0
   go_wp2_with fail
   refine (hp.out w3 hc3.out).mono ?_
   intro x w4 hm
   rw [hR.out] at hm
   cases R with
   | stuck => exact hm.elim
   | err e =>
    obtain ⟨rfl, hm⟩ := hm
    replace hm := hidden hm
    unfold failI
    go_wp2_with fail
    exact ⟨rfl, rfl, hm.out⟩
   | go s' =>
    obtain ⟨rfl, hm⟩ := hm
    replace hm := hidden hm
    go_wp2_with fail
    go_end0
    exact ⟨rfl, hm.out⟩
  ·have hr0 := hR.out
   rw [if_pos hre] at hr0
   clear hR
   have hR := hidden hr0
   have hqe : (re == 0) = false := by simp; exact hre
   clear hr0 hre
   go_wp2_with fail
   refine (hd0.out _).mono ?_
   rintro x w2 ⟨rfl, hw2⟩
   rw [hw2]
   unfold failI
   go_wp2_with fail
   refine ⟨rfl, ?_⟩
   show MP _ _ _ _ _ _ R _ _
   rw [← hR.out]
   exact ⟨rfl, Chg.of_ext _ hc.out⟩
 ·have hl1 : l.length = 1 := by omega
  have hcb : calB l = 0 := by unfold calB; rw [if_neg (by omega)]
  rw [hcb, hl1]
  obtain ⟨R, hR⟩ : ∃ R, (if (apF op x0 0).2 ≠ 0 then Rs.err (apF op x0 0).2 else pushF [((apF op x0 0).1, ps.toList == [116])] s) = R := ⟨_, rfl⟩
  rw [hR]
  clear hcb hll hl2
  replace hl1 := hidden hl1
  have hap := hidden (fun W => iapply_any op x0 0 u0.1 u0.2 (by decide) (by decide) W)
  obtain ⟨rv, hrv⟩ := ex ((apF op x0 0).1)
  obtain ⟨re, hree⟩ := ex ((apF op x0 0).2)
  rw [hrv, hree] at hap hR
  have hd1 := hidden (idem_true re)
  have hd0 := hidden (idem_false re)
  replace hrv := hidden hrv
  replace hree := hidden hree
  have hp := fun W c => push1 h.m h.hb h.ok W c rv (ps.toList == [116])
  replace hp := hidden hp
  replace hR := hidden hR
  have XW := (Ext.refl w).alloc (.cells #[.int .i64 op, .int .u32 arg] 63)
  have BW := Blk.new w [.int .i64 op, .int .u32 arg] 63
  obtain ⟨b0, b1⟩ := BW.c2
  have zlt := BW.lt
  have d0 := XW.cell hc0
  have hX := hidden XW
  clear h hc0 BW XW
  go_enter Tryz.func74, Tryz.ntmps74
  go_wp2_with fail
  obtain ⟨z, hz⟩ := ex w.heap.size
  obtain ⟨W, hW⟩ := ex (w.alloc (.cells #[.int .i64 op, .int .u32 arg] 63))
  simp only [hz, hW] at b0 b1 zlt d0 hX ⊢
  replace hz := hidden hz
  replace hW := hidden hW
  refine wp_region_held_drew (S := fun _ => True) (by kernel_rfl) trivial (fun HS => ?_)
  refine tkh 0 (.pointer (some ⟨z, 0, none⟩)) trivial ?_; try simp only [sx]
  refine tkh 2 (.slice (some ⟨b, o, none⟩) 1 capl) trivial ?_; try simp only [sx]
  refine tkh 3 (.pointer (some ⟨b, o, none⟩)) trivial ?_; try simp only [sx]
  refine tkh 4 (.pointer (some ⟨b, o, none⟩)) trivial ?_; try simp only [sx]
  refine tkh 6 (.int .u32 0) trivial ?_; try simp only [sx]
  refine loads2H 1 5 (.int .i64 op) (.int .u32 x0) rfl rfl rfl rfl (by decide) (by decide) (by kernel_rfl) (by kernel_rfl) (by kernel_rfl) rfl rfl (by go_simp) (by go_simp) (by go_simp) (by go_simp) ?_; try simp only [sx]
  refine callHP 7 111 #[.int .i64 op, .int .u32 x0, .int .u32 0] rfl (by kernel_rfl) (by rfl) (by go_simp) (hap.out W.drew) ?_
  rintro x w1 ⟨rfl, hX1⟩
  have hc := hidden (hX.out.drew.trans hX1)
  have e0 := hX1.cell b0
  clear hX1 d0 b1 b0
  refine Or.inl ⟨_, rfl, trivial, ?_⟩
  try simp only [Act.put, sx]
  refine tkh 8 (.tuple #[.int .u32 rv, .int .i64 re]) trivial ?_; try simp only [sx]
  refine tkh 9 (.int .u32 rv) trivial ?_; try simp only [sx]
  refine tkh 10 (.int .i64 re) trivial ?_; try simp only [sx]
  refine tkh 11 (.int .u32 rv) trivial ?_; try simp only [sx]
  refine tkh 12 (.int .i64 re) trivial ?_; try simp only [sx]
  refine wpAnyH_done (by kernel_rfl) ?_ _
  show _
  by_cases hre : re = 0
  ·subst hre
   have hr0 := hR.out
   rw [if_neg (by decide)] at hr0
   clear hR
   have hR := hidden hr0
   clear hr0
   go_wp2_with fail
   refine (hd1.out _).mono ?_
   rintro x w2 ⟨rfl, hw2⟩
   rw [hw2]
   clear hw2
   go_wp2_with fail
   refine (hef.out _).mono ?_
   rintro x w3 ⟨rfl, hX3⟩
   have hc3 := hidden (hc.out.trans hX3)
   clear hX3 e0
   go_wp2_with fail
   refine (hp.out w3 hc3.out).mono ?_
   intro x w4 hm
   rw [hR.out] at hm
   cases R with
   | stuck => exact hm.elim
   | err e =>
    obtain ⟨rfl, hm⟩ := hm
    replace hm := hidden hm
    unfold failI
    go_wp2_with fail
    exact ⟨rfl, rfl, hm.out⟩
   | go s' =>
    obtain ⟨rfl, hm⟩ := hm
    replace hm := hidden hm
    go_wp2_with fail
    go_end0
    exact ⟨rfl, hm.out⟩
  ·have hr0 := hR.out
   rw [if_pos hre] at hr0
   clear hR
   have hR := hidden hr0
   have hqe : (re == 0) = false := by simp; exact hre
   clear hr0 hre
   go_wp2_with fail
   refine (hd0.out _).mono ?_
   rintro x w2 ⟨rfl, hw2⟩
   rw [hw2]
   unfold failI
   go_wp2_with fail
   refine ⟨rfl, ?_⟩
   show MP _ _ _ _ _ _ R _ _
   rw [← hR.out]
   exact ⟨rfl, Chg.of_ext _ hc.out⟩
theorem iex_any (w : World) (B q : Nat) (V : Vs) (X : EV) (E : Env) (s : MS) (h : MSt LP w B q V X E s) (op arg : Int) (ha : U32 arg) :
  Calls Tryz.prog 71 #[.pointer (some ⟨q, 0, none⟩), .agg #[.int .i64 op, .int .u32 arg]] w fun x w' => x = .returned (.bool (exiF E op arg)) ∧ Ext w w' := by
 have c3 := h.cell 3 _ rfl
 have c2 := h.cell 2 _ rfl
 obtain ⟨aA, cA', hvA, -, -, -⟩ := Rd.shape (show Rd w 2 X.a E.A.length (E.A.flatMap cA) from h.env.a)
 rw [hvA] at c2
 have BW := Blk.new w [.int .i64 op, .int .u32 arg] 63
 obtain ⟨b0, b1⟩ := BW.c2
 have XW := (Ext.refl w).alloc (.cells #[.int .i64 op, .int .u32 arg] 63)
 have d3 := XW.cell c3
 have d2 := XW.cell c2
 have hw : IntKind.i64.wrap arg = arg := IntWalk.i64_in _ (by have := ha.1; have := ha.2; omega)
 obtain ⟨nA, hnA⟩ := ex E.A.length
 obtain ⟨nL, hnL⟩ := ex E.L
 rw [hnL] at d3
 rw [hnA] at d2
 obtain ⟨e, he⟩ := ex (exiF E op arg)
 rw [he]
 unfold exiF at he
 rw [hnA, hnL] at he
 have hX := hidden XW
 replace hnA := hidden hnA
 replace hnL := hidden hnL
 replace hvA := hidden hvA
 clear h c3 c2 BW XW ha
 by_cases h1 : op = 1 ∨ op = 2
 ·rw [if_pos h1] at he
  replace he := hidden he
  rcases h1 with rfl | rfl
  all_goals
   go_enter Tryz.func71, Tryz.ntmps71
   go_wp2_with fail
   go_quiet (fail)
   all_goals go_wp2_with fail
   go_ret
   exact ⟨ret_bool he.out, hX.out.drewN _⟩
 ·rw [if_neg h1] at he
  have q1 : (op == 1) = false := by simp; intro e; exact h1 (Or.inl e)
  have q2 : (op == 2) = false := by simp; intro e; exact h1 (Or.inr e)
  by_cases h3 : op = 3 ∨ op = 4
  ·rw [if_pos h3] at he
   replace he := hidden he
   clear h1 q1 q2
   rcases h3 with rfl | rfl
   all_goals
    go_enter Tryz.func71, Tryz.ntmps71
    go_wp2_with fail
    go_quiet (fail)
    all_goals go_wp2_with fail
    go_ret
    exact ⟨ret_bool he.out, hX.out.drewN _⟩
  ·rw [if_neg h3] at he
   have q3 : (op == 3) = false := by simp; intro e; exact h3 (Or.inl e)
   have q4 : (op == 4) = false := by simp; intro e; exact h3 (Or.inr e)
   replace he := hidden he
   clear h1 h3
   go_enter Tryz.func71, Tryz.ntmps71
   go_wp2_with fail
   go_ret
   exact ⟨ret_bool he.out, hX.out⟩
def methT : List (Int × Value) := [(0, .func (.func 92) #[] #[]), (1, .func (.func 93) #[] #[]), (2, .func (.func 94) #[] #[]), (3, .func (.func 95) #[] #[]), (4, .func (.func 96) #[] #[]), (5, .func (.func 97) #[] #[]), (6, .func (.func 98) #[] #[]), (7, .func (.func 99) #[] #[]), (27, .func (.func 100) #[] #[]), (28, .func (.func 101) #[] #[]), (29, .func (.func 102) #[] #[]), (30, .func (.func 103) #[] #[]), (31, .func (.func 104) #[] #[]), (32, .func (.func 105) #[] #[]), (33, .func (.func 106) #[] #[]), (34, .func (.func 107) #[] #[]), (35, .func (.func 108) #[] #[])]
theorem imethods_any (w : World) :
  Calls Tryz.prog 68 #[] w fun e w' => e = .returned (.map (some w.heap.size)) ∧ w.alloc (tblObj methT) = w' := by
 have hmm : ∀ t w, (Instr.makeMap t none).run Tryz.prog w = .ok (.map (some w.heap.size)) (w.alloc (tblObj [])) := fun _ _ => rfl
 go_enter Tryz.func68, Tryz.ntmps68
 go_wp2_with fail
 iterate 17 (rw [run_insert Tryz.underlying133 Tryz.underlying3 _ _ _ (by rfl)]; go_wp2_with fail)
 go_ret
 exact ⟨rfl, rfl⟩
theorem meth_look {w : World} {r : Nat} (hr : w.heap[r]? = some (tblObj methT)) (k : Int) (v : Value) (h : look k methT = some v) : (Instr.lookup 133 (.map (some r)) (.int .i64 k) true).run Tryz.prog w = .ok (.tuple #[v, .bool true]) w :=
 run_look Tryz.underlying133 Tryz.underlying3 methT hr k v h
theorem meth_none {w : World} {r : Nat} (hr : w.heap[r]? = some (tblObj methT)) (k : Int) (h0 : 8 ≤ k) (h1 : k ≤ 26) : (Instr.lookup 133 (.map (some r)) (.int .i64 k) true).run Tryz.prog w = .ok (.tuple #[.nilFunc, .bool false]) w :=
 run_look_none Tryz.underlying133 Tryz.underlying3 methT hr k .nilFunc rfl (look_none (by simp only [methT, List.mem_cons, List.not_mem_nil, or_false]; rintro p (rfl | rfl | rfl | rfl | rfl | rfl | rfl | rfl | rfl | rfl | rfl | rfl | rfl | rfl | rfl | rfl | rfl) <;> (intro e; simp only at e; omega)))
theorem exec_tab (op : Int) (h0 : 0 ≤ op) (h1 : op < 36) : (∃ f, look op methT = some (.func (.func f) #[] #[]) ∧ Meth f op ∧ ∀ (args : Array Value) (w : World), (callFunc f args).run Tryz.prog w = .ok (Next.enter f args) w) ∨ (8 ≤ op ∧ op ≤ 26) := by
 by_cases hm : 8 ≤ op ∧ op ≤ 26
 ·exact Or.inr hm
 ·left
  have hc : op = 0 ∨ op = 1 ∨ op = 2 ∨ op = 3 ∨ op = 4 ∨ op = 5 ∨ op = 6 ∨ op = 7 ∨ op = 27 ∨ op = 28 ∨ op = 29 ∨ op = 30 ∨ op = 31 ∨ op = 32 ∨ op = 33 ∨ op = 34 ∨ op = 35 := by omega
  rcases hc with rfl | rfl | rfl | rfl | rfl | rfl | rfl | rfl | rfl | rfl | rfl | rfl | rfl | rfl | rfl | rfl | rfl
  ·exact ⟨_, rfl, m_constant, fun args w => by kernel_rfl⟩
  ·exact ⟨_, rfl, m_load, fun args w => by kernel_rfl⟩
  ·exact ⟨_, rfl, m_store, fun args w => by kernel_rfl⟩
  ·exact ⟨_, rfl, m_get, fun args w => by kernel_rfl⟩
  ·exact ⟨_, rfl, m_put, fun args w => by kernel_rfl⟩
  ·exact ⟨_, rfl, m_dup, fun args w => by kernel_rfl⟩
  ·exact ⟨_, rfl, m_drop, fun args w => by kernel_rfl⟩
  ·exact ⟨_, rfl, m_swap, fun args w => by kernel_rfl⟩
  ·exact ⟨_, rfl, m_choose, fun args w => by kernel_rfl⟩
  ·exact ⟨_, rfl, m_otherwise, fun args w => by kernel_rfl⟩
  ·exact ⟨_, rfl, m_loop, fun args w => by kernel_rfl⟩
  ·exact ⟨_, rfl, m_leave, fun args w => by kernel_rfl⟩
  ·exact ⟨_, rfl, m_end, fun args w => by kernel_rfl⟩
  ·exact ⟨_, rfl, m_input, fun args w => by kernel_rfl⟩
  ·exact ⟨_, rfl, m_ended, fun args w => by kernel_rfl⟩
  ·exact ⟨_, rfl, m_emit, fun args w => by kernel_rfl⟩
  ·exact ⟨_, rfl, m_context, fun args w => by kernel_rfl⟩
theorem oks_tick {E : Env} {s : MS} (hE : OkE E) (h : OkS E s) (hlt : s.steps < E.fuel) : OkS E { s with steps := s.steps + 1 } := by
 have := hE.f1
 have := h.s0
 exact { h with s0 := by show 0 ≤ s.steps + 1; omega, s1 := by show s.steps + 1 ≤ _; omega }
structure RS (w0 : World) (n1 r B q : Nat) (V0 : Vs) (X : EV) (E : Env) (V : Vs) (s : MS) (wr : World) : Prop where
 m : MSt LP wr B q V X E s
 c : Chg (SV q V0) w0 wr
 t : ToV n1 q V0 V
 h : wr.heap[r]? = some (tblObj methT)
 rn : r ∉ SV q V0
 rl : r < n1
 nl : n1 ≤ wr.heap.size
 bl : B ≤ w0.heap.size
theorem RS.ext {w0 wr w2 : World} {n1 r B q : Nat} {V0 V : Vs} {X : EV} {E : Env} {s : MS} (h : RS w0 n1 r B q V0 X E V s wr) (c : Ext wr w2) : RS w0 n1 r B q V0 X E V s w2 :=
 ⟨h.m.ext c, h.c.trans (Chg.of_ext _ c) (fun x hx => Or.inl hx), h.t, tbl_ext c h.h, h.rn, h.rl, Nat.le_trans h.nl c.size, h.bl⟩
theorem RS.next {w0 wr w2 : World} {n1 r B q : Nat} {V0 V V' : Vs} {X : EV} {E : Env} {s s' : MS} (h : RS w0 n1 r B q V0 X E V s wr) (hn0 : w0.heap.size ≤ n1) (m : MSt LP w2 B q V' X E s') (c : Chg (SV q V) wr w2) (t : ToV wr.heap.size q V V') : RS w0 n1 r B q V0 X E V' s' w2 := by
 have hrV : r ∉ SV q V := fun hm => by
  rcases h.t r hm with h1 | h1
  ·exact h.rn h1
  ·have := h.rl; omega
 refine ⟨m, h.c.trans c (fun x hx => ?_), h.t.trans t h.nl, ?_, h.rn, h.rl, Nat.le_trans h.nl c.size, h.bl⟩
 ·rcases h.t x hx with h1 | h1
  ·exact Or.inl h1
  ·exact Or.inr (Nat.le_trans hn0 h1)
 ·exact c.heap hrV h.h
theorem RS.last {w0 wr w2 : World} {n1 r B q : Nat} {V0 V : Vs} {X : EV} {E : Env} {s : MS} (h : RS w0 n1 r B q V0 X E V s wr) (hn0 : w0.heap.size ≤ n1) (c : Chg (SV q V) wr w2) : Chg (SV q V0) w0 w2 :=
 h.c.trans c (fun x hx => by
  rcases h.t x hx with h1 | h1
  ·exact Or.inl h1
  ·exact Or.inr (Nat.le_trans hn0 h1))
def RunP (w : World) (B q : Nat) (V : Vs) (X : EV) (E : Env) (R : Out) (x : Ending) (w' : World) : Prop :=
 match R with
 | .error e => x = failI e ∧ Chg (SV q V) w w'
 | .ok (ar, cx, out, steps) => x = .returned (.tuple #[]) ∧ ∃ V' s', MSt LP w' B q V' X E s' ∧ OkS E s' ∧ s'.ar = ar ∧ s'.cx = cx ∧ s'.out = out ∧ s'.steps = steps ∧ Chg (SV q V) w w'
theorem pops_all : (List.range 36).all (fun k => decide ((opAt (k : Int)).2.1.size ≤ 2) && (opAt (k : Int)).2.1.data.toList.all (fun b => decide (b.toNat < 128))) = true := by decide +kernel
theorem pops_ok {op : Int} (h0 : 0 ≤ op) (h1 : op < 36) : (opAt op).2.1.size ≤ 2 ∧ ∀ j (h : j < (opAt op).2.1.size), ((opAt op).2.1[j]'h).toNat < 128 := by
 obtain ⟨n, rfl⟩ := Int.eq_ofNat_of_zero_le h0
 have := List.all_eq_true.1 pops_all n (by simp; omega)
 simp only [Bool.and_eq_true, decide_eq_true_eq, List.all_eq_true] at this
 exact ⟨this.1, fun j h => this.2 _ (Array.getElem_mem_toList _)⟩
theorem pop_len {tys : List UInt8} {st l r : List Vl} {b : Int} (h : popF tys st b = .ok (l, r)) (hb : 0 ≤ b) : l.length = tys.length := by
 unfold popF at h
 split at h
 ·cases h
 ·split at h
  ·simp only [Except.ok.injEq, Prod.mk.injEq] at h
   obtain ⟨rfl, rfl⟩ := h
   rw [List.length_drop]; omega
  ·cases h
theorem base_nn {E : Env} {s : MS} (h : OkS E s) : 0 ≤ baseF s.fr := by
 unfold baseF
 split
 ·exact Int.le_refl _
 next f hf => exact (h.frv f (last_mem hf)).1
theorem step_cases {E : Env} {s : MS} {k : Nat} {R : Out} (h : runN E (k + 1) s = some R) (hlt : s.pc < E.C.length) (op arg : Int) (ho : opS E s = op) (ha : argS E s = arg) :
  (¬ (op = 28 ∨ op = 31) ∧ ¬ s.steps < E.fuel ∧ R = .error 19) ∨ ((op = 28 ∨ op = 31 ∨ s.steps < E.fuel) ∧ ((exiF E op arg = false ∧ R = .error 2) ∨ (exiF E op arg = true ∧
   ((∃ e, popF (opAt op).2.1.data.toList s.st (baseF s.fr) = .error e ∧ R = .error e) ∨ (∃ l r, popF (opAt op).2.1.data.toList s.st (baseF s.fr) = .ok (l, r) ∧ ((∃ e, exeF E op arg l (s1F E s r) = .err e ∧ R = .error e) ∨ (∃ s', exeF E op arg l (s1F E s r) = .go s' ∧ runN E k { s' with pc := s'.pc + 1 } = some R))))))) := by
 unfold runN at h
 rw [if_neg (by omega)] at h
 unfold stepF at h
 rw [ho, ha] at h
 by_cases h1 : ¬ (op = 28 ∨ op = 31) ∧ ¬ s.steps < E.fuel
 ·rw [if_pos h1] at h
  exact Or.inl ⟨h1.1, h1.2, (Option.some.inj h).symm⟩
 ·rw [if_neg h1] at h
  right
  refine ⟨by have := step_may (E := E) (s := s) (by rw [ho]; exact h1); rw [ho] at this; exact this, ?_⟩
  by_cases h2 : exiF E op arg = false
  ·rw [if_pos h2] at h
   exact Or.inl ⟨h2, (Option.some.inj h).symm⟩
  ·rw [if_neg h2] at h
   right
   refine ⟨by revert h2; cases exiF E op arg <;> simp, ?_⟩
   rcases hp : popF (opAt op).2.1.data.toList s.st (baseF s.fr) with e | ⟨l, r⟩
   ·rw [hp] at h
    exact Or.inl ⟨e, rfl, (Option.some.inj h).symm⟩
   ·rw [hp] at h
    right
    refine ⟨l, r, rfl, ?_⟩
    simp only at h
    revert h
    generalize exeF E op arg l (s1F E s r) = Q
    intro h
    cases Q with
    | stuck => cases h
    | err e => exact Or.inl ⟨e, rfl, (Option.some.inj h).symm⟩
    | go s' => exact Or.inr ⟨s', rfl, h⟩
theorem size_toList (b : ByteArray) : b.data.toList.length = b.size := by simp
theorem irun_any (w : World) (B q : Nat) (V : Vs) (X : EV) (E : Env) (s0 : MS) (h : MSt LP w B q V X E s0) (hB : B ≤ w.heap.size) (hs : OkS E s0) (hE : OkE E) (hp0 : 0 ≤ s0.pc) (hp1 : s0.pc ≤ E.C.length) (N : Nat) (R : Out) (hR : runN E N s0 = some R) :
  Calls Tryz.prog 51 #[.pointer (some ⟨q, 0, none⟩)] w (RunP w B q V X E R) := by
 have hrV : w.heap.size ∉ SV q V := fun hm => by have := (h.lt hm).2; omega
 have hmt := imethods_any w
 have hRS := hidden (RS.mk (w0 := w) (n1 := w.heap.size + 1) (r := w.heap.size) (h.ext ((Ext.refl w).alloc (tblObj methT))) (Chg.of_ext _ ((Ext.refl w).alloc (tblObj methT))) (ToV.refl _ _ _) (tbl_at w methT) hrV (by omega) (by simp) hB)
 have hn0 : w.heap.size ≤ w.heap.size + 1 := by omega
 obtain ⟨n1, hn1⟩ := ex (w.heap.size + 1)
 obtain ⟨r, hr⟩ := ex w.heap.size
 rw [hn1] at hRS hn0
 rw [hr] at hRS hmt
 replace hn0 := hidden hn0
 have hE' := hidden hE
 have hC0 := hE.C0
 obtain ⟨n, hn⟩ := ex E.C.length
 rw [hn] at hC0 hp1
 replace hs := hidden hs
 replace hR := hidden hR
 replace hn := hidden hn
 replace hr := hidden hr
 replace hn1 := hidden hn1
 replace hmt := hidden hmt
 clear h hrV hE hB
 go_enter Tryz.func51, Tryz.ntmps51
 go_wp2_with fail
 refine hmt.out.mono ?_
 rintro x w1 ⟨rfl, hw1⟩
 subst hw1
 go_wp2_with fail
 go_loopg [3, 4, 5, 6, 7, 8, 9] N (fun k u3 u4 u5 u6 u7 u8 u9 wr => ∃ (s : MS) (V' : Vs), 0 ≤ s.pc ∧ s.pc ≤ n ∧ Hid (runN E k s = some R) ∧ Hid (OkS E s) ∧ Hid (RS w n1 r B q V X E V' s wr))
 case atStart => exact ⟨s0, V, hp0, hp1, hR, hs, hRS⟩
 case round =>
  obtain ⟨s, V', hp0, hp1, hR, hs, hRS⟩ := hrel
  obtain ⟨k, rfl⟩ : ∃ k, gk = k + 1 := by
   cases gk with
   | zero => have := hR.out; cases this
   | succ k => exact ⟨k, rfl⟩
  have hm := hRS.out.m
  have c9 := hm.cell 9 _ rfl
  change wr.cell? ⟨q, 9, none⟩ = some (.int .i64 s.pc) at c9
  obtain ⟨p, hpe⟩ := Int.eq_ofNat_of_zero_le hp0
  rw [hpe] at c9 hp1
  have c4 := hm.cell 4 _ rfl
  by_cases hlt : p < n
  ·obtain ⟨bC, oC, cC, hvC, hcC, -, -, hca, hcb⟩ := hm.env.code_at (k := p) (by rw [hn.out]; exact hlt)
   rw [hn.out] at hvC hcC
   rw [hvC] at c4
   obtain ⟨op, hop⟩ := ex (opC E.C p)
   obtain ⟨arg, harg⟩ := ex ((E.C.getD p (0, 0)).2)
   rw [hop] at hca
   rw [harg] at hcb
   have hops : opS E s = op := by unfold opS; rw [hpe, Int.toNat_natCast]; exact hop
   have hargs : argS E s = arg := by unfold argS; rw [hpe, Int.toNat_natCast]; exact harg
   obtain ⟨ho0, ho1, hau, hctx⟩ := hE'.out.okc _ (getD_mem (l := E.C) (i := p) (d := (0, 0)) (by rw [hn.out]; exact hlt))
   change 0 ≤ opC E.C p at ho0
   change opC E.C p < 36 at ho1
   change opC E.C p = 35 → _ at hctx
   rw [hop] at ho0 ho1 hctx
   rw [harg] at hau hctx
   have hsc := step_cases hR.out (by rw [hpe, hn.out]; omega) op arg hops hargs
   have hpcC : opC E.C s.pc.toNat = op := by rw [hpe, Int.toNat_natCast]; exact hop
   have hpl : s.pc < E.C.length := by rw [hpe, hn.out]; omega
   have hltI : (p : Int) < (n : Int) := by omega
   have hef := hidden (fun W => ieffect_any op W)
   have hpok := pops_ok ho0 ho1
   have hps := hidden hpok
   obtain ⟨pp, hpp⟩ := ex ((opAt op).2.1)
   obtain ⟨pq, hpq⟩ := ex ((opAt op).2.2.1)
   obtain ⟨pi, hpi⟩ := ex (isOp op)
   rw [hpp] at hps hsc
   simp only [hpp, hpq, hpi] at hef
   replace hsc := hidden hsc
   replace hop := hidden hop
   replace harg := hidden harg
   replace hops := hidden hops
   replace hargs := hidden hargs
   replace hpe := hidden hpe
   replace hvC := hidden hvC
   replace hpp := hidden hpp
   replace hpq := hidden hpq
   replace hpi := hidden hpi
   replace hpcC := hidden hpcC
   replace hpl := hidden hpl
   replace hctx := hidden hctx
   clear hm hpok
   go_wp2_with fail
   go_quiet (fail)
   all_goals go_wp2_with fail
   have hXW := (Ext.refl wr).drewN nq
   have d4 := hXW.cell c4
   have d9 := hXW.cell c9
   have dca := hXW.cell hca
   have dcb := hXW.cell hcb
   obtain ⟨W, hW⟩ := ex (wr.drewN nq)
   rw [hW] at hXW d4 d9 dca dcb ⊢
   replace hW := hidden hW
   clear c4 c9 hca hcb
   refine wp_region_held_drew (S := fun w' => w'.cell? ⟨q, 4, none⟩ = some (.slice (some ⟨bC, oC, none⟩) n cC) ∧ w'.cell? ⟨q, 9, none⟩ = some (.int .i64 (p : Int)) ∧ w'.cell? ⟨bC, oC + p * 2, none⟩ = some (.int .i64 op) ∧ w'.cell? ⟨bC, oC + p * 2 + 1, none⟩ = some (.int .u32 arg)) (by kernel_rfl) ⟨d4, d9, dca, dcb⟩ (fun HS => ?_)
   refine tkh 0 (.pointer (some ⟨q, 0, none⟩)) HS ?_; try simp only [sx]
   refine tkh 1 (.pointer (some ⟨q, 0, none⟩)) HS ?_; try simp only [sx]
   refine tkh 2 (.pointer (some ⟨q, 2, none⟩)) HS ?_; try simp only [sx]
   refine tkh 3 (.pointer (some ⟨q, 4, none⟩)) HS ?_; try simp only [sx]
   refine tkh 4 (.slice (some ⟨bC, oC, none⟩) n cC) HS ?_; try simp only [sx]
   refine tkh 5 (.pointer (some ⟨q, 0, none⟩)) HS ?_; try simp only [sx]
   refine tkh 6 (.pointer (some ⟨q, 0, none⟩)) HS ?_; try simp only [sx]
   refine tkh 7 (.pointer (some ⟨q, 9, none⟩)) HS ?_; try simp only [sx]
   refine tkh 8 (.int .i64 (p : Int)) HS ?_; try simp only [sx]
   refine tkh 9 (.pointer (some ⟨bC, oC + p * 2, none⟩)) HS ?_; try simp only [sx]
   refine tkh 10 (.agg #[.int .i64 op, .int .u32 arg]) HS ?_; try simp only [sx]
   refine valueH 11 (.pointer (some ⟨W.heap.size, 0, none⟩)) rfl rfl (by kernel_rfl) (by rfl) (w' := (W.alloc (.cells #[.int .i64 0, .int .u32 0] 63)).drew) (by go_simp) ⟨((Ext.refl W).alloc _).drew.cell d4, ((Ext.refl W).alloc _).drew.cell d9, ((Ext.refl W).alloc _).drew.cell dca, ((Ext.refl W).alloc _).drew.cell dcb⟩ ?_; try simp only [sx]
   refine storeH 12 rfl rfl (by kernel_rfl) (by rfl) (w' := (W.alloc (.cells #[.int .i64 op, .int .u32 arg] 63)).drew) (by go_simp) ⟨((Ext.refl W).alloc _).drew.cell d4, ((Ext.refl W).alloc _).drew.cell d9, ((Ext.refl W).alloc _).drew.cell dca, ((Ext.refl W).alloc _).drew.cell dcb⟩ ?_
   refine wpAnyH_done (by kernel_rfl) ?_ _
   show _
   have BW := (Blk.new W [.int .i64 op, .int .u32 arg] 63).drew
   obtain ⟨b0, b1⟩ := BW.c2
   have hRS1 := hidden (hRS.out.ext (hXW.trans ((Ext.refl W).alloc (.cells #[.int .i64 op, .int .u32 arg] 63)).drew))
   have zlt := BW.lt
   have hzV : W.heap.size ∉ SV q V' := fun hm => by have h1 := (hRS.out.m.lt hm).2; have h2 := hXW.size; omega
   obtain ⟨W1, hW1⟩ := ex ((W.alloc (.cells #[.int .i64 op, .int .u32 arg] 63)).drew)
   obtain ⟨z, hz⟩ := ex W.heap.size
   simp only [hW1, hz] at b0 b1 hRS1 zlt hzV ⊢
   replace hW1 := hidden hW1
   replace hz := hidden hz
   clear hRS hXW d4 d9 dca dcb BW HS
   by_cases hB : op = 28 ∨ op = 31
   ·have hs1 : Hid (∀ r', s1F E s r' = { s with st := r' }) := by
     intro r'
     unfold s1F
     rw [hops.out, if_pos hB]
    rcases hsc.out with ⟨hnB, -⟩ | ⟨-, hsc2⟩
    ·exact absurd hB hnB
    have hRS2 := hRS1
    have hs2 := hs
    replace hsc2 := hidden hsc2
    clear hsc hRS1
    rcases hB with rfl | rfl
    ·-- an else
     have hex := hidden (iex_any W1 B q V' X E s hRS2.out.m 28 arg hau)
     go_wp2_with fail
     refine hex.out.mono ?_
     clear hex
     rintro x w3 ⟨rfl, hX3⟩
     have hRS3 := hidden (hRS2.out.ext hX3)
     have e0 := hX3.cell b0
     have e1 := hX3.cell b1
     have zl3 := Nat.lt_of_lt_of_le zlt hX3.size
     clear hRS2 b0 b1 zlt hX3
     rcases hsc2.out with ⟨hx1, hx2⟩ | ⟨hx1, hsc3⟩
     ·rw [hx1]
      replace hx2 := hidden hx2
      clear hsc2 hx1
      go_wp2_with fail
      refine (idem_false 2 _).mono ?_
      rintro x w4 ⟨rfl, hw4⟩
      rw [hw4]
      unfold failI
      go_wp2_with fail
      refine ⟨rfl, ?_⟩
      show RunP _ _ _ _ _ _ R _ _
      rw [hx2.out]
      exact ⟨rfl, hRS3.out.c⟩
     rw [hx1]
     replace hx1 := hidden hx1
     replace hsc3 := hidden hsc3
     clear hsc2
     go_wp2_with fail
     refine (idem_true 2 _).mono ?_
     rintro x w4 ⟨rfl, hw4⟩
     rw [hw4]
     clear hw4
     go_wp2_with fail
     refine (hef.out _).mono ?_
     rintro x w4 ⟨rfl, hX4⟩
     have hRS4 := hidden (hRS3.out.ext hX4)
     have g0 := hX4.cell e0
     have g1 := hX4.cell e1
     have zl4 := Nat.lt_of_lt_of_le zl3 hX4.size
     clear hRS3 e0 e1 zl3 hX4
     have hpop := hidden (ipop_any pp hps.out.1 hps.out.2 w4 B q V' X E s hRS4.out.m (Nat.le_trans hRS4.out.bl (Nat.le_trans hn0.out hRS4.out.nl)) hs2.out)
     go_wp2_with fail
     refine hpop.out.mono ?_
     clear hpop
     intro x w5 hpp5
     rcases hsc3.out with ⟨e, hpe5, hRe⟩ | ⟨l, r', hpe5, hsc4⟩
     ·change PopP w4 B q V' X E _ (popF pp.data.toList s.st (baseF s.fr)) x w5 at hpp5
      rw [hpe5] at hpp5
      obtain ⟨rfl, hc5⟩ := hpp5
      have hlast := hidden (hRS4.out.last hn0.out hc5)
      replace hRe := hidden hRe
      clear hsc3 hpe5 hc5
      unfold failI
      go_wp2_with fail
      refine ⟨rfl, ?_⟩
      show RunP _ _ _ _ _ _ R _ _
      rw [hRe.out]
      exact ⟨rfl, hlast.out⟩
     change PopP w4 B q V' X E _ (popF pp.data.toList s.st (baseF s.fr)) x w5 at hpp5
     rw [hpe5] at hpp5
     obtain ⟨vl', V2, rfl, hRd, hoff, hm5, hc5, ht5⟩ := hpp5
     have hRS5 := hidden (hRS4.out.next hn0.out hm5 hc5 ht5)
     have k0 := hc5.cell hzV g0
     have k1 := hc5.cell hzV g1
     have hok5 := hidden (oks_s1 (l := l) (r := r') hE'.out hs.out (by rw [hops.out]; first | exact Or.inl rfl | exact Or.inr (Or.inl rfl)) hpe5)
     have hpre : Pre w5 B q V2 X E (s1F E s r') 28 arg l vl' := by
      have hB5 := hRS5.out
      refine ⟨?_, Nat.le_trans hB5.bl (Nat.le_trans hn0.out hB5.nl), hok5.out, hE'.out, hpcC.out, hp0, hpl.out, hau, hctx.out, hx1.out, ?_, fun v hv => hs.out.stv v ((pop_mem hpe5).1 v hv), hRd, hoff, ?_⟩
      ·rw [hs1.out r']; exact hB5.m
      ·rw [hpp.out, pop_len hpe5 (base_nn hs.out), size_toList]
      ·rcases hsc4 with ⟨e, h1, -⟩ | ⟨s', h1, -⟩ <;> rw [h1] <;> exact fun e => by cases e
     have hkeep := hidden (keeps_exe hE'.out hok5.out (by show 0 ≤ s.pc; exact hp0) (by show s.pc < _; exact hpl.out) 28 arg l (fun v hv => hs.out.stv v ((pop_mem hpe5).1 v hv)) (by show opS E s = _; exact hops.out) (by show argS E s = _; exact hargs.out))
     replace hsc4 := hidden hsc4
     replace hpre := hidden hpre
     clear hsc3 hRS4 g0 g1 hc5 hm5 ht5 hRd hoff
     rcases exec_tab 28 (by decide) (by decide) with ⟨f, hf, hM, hent⟩ | hcl
     ·have hlk := meth_look hRS5.out.h 28 _ hf
      have hcall := hidden (hM w5 B q V2 X E (s1F E s r') arg l vl' hpre.out)
      clear hf hM hpre
      go_wp2_with fail
      refine hcall.out.mono ?_
      clear hcall
      intro x w6 hmp
      rcases hsc4.out with ⟨e, h1, hRe⟩ | ⟨s', h1, hR'⟩
      ·rw [h1] at hmp
       obtain ⟨rfl, hc6⟩ := hmp
       have hlast := hidden (hRS5.out.last hn0.out hc6)
       replace hRe := hidden hRe
       clear hsc4 h1 hc6
       unfold failI
       go_wp2_with fail
       refine ⟨rfl, ?_⟩
       show RunP _ _ _ _ _ _ R _ _
       rw [hRe.out]
       exact ⟨rfl, hlast.out⟩
      ·rw [h1] at hmp
       obtain ⟨rfl, V3, hm6, hc6, ht6⟩ := hmp
       have hRS6 := hRS5.out.next hn0.out hm6 hc6 ht6
       obtain ⟨hk1, hk2, hk3⟩ := hkeep.out s' h1
       rw [hn.out] at hk3
       have q9 := hm6.cell 9 _ rfl
       change w6.cell? ⟨q, 9, none⟩ = some (.int .i64 s'.pc) at q9
       have fq9 := hm6.blk.frozen 9
       obtain ⟨n1', n2'⟩ := hm6.cellq 9 (.int .i64 (s'.pc + 1)) (s' := { s' with pc := s'.pc + 1 }) rfl rfl rfl
       have hRS7 := hidden (hRS6.next hn0.out n1' n2' (ToV.refl _ _ _))
       obtain ⟨pc', hpc'⟩ := ex s'.pc
       rw [hpc'] at q9 hk2 hk3
       have hRSx : Hid (RS w n1 r B q V X E V3 { s' with pc := s'.pc + 1 } (w6.setCell ⟨q, 9, none⟩ (.int .i64 (pc' + 1)))) := by show RS _ _ _ _ _ _ _ _ _ _ _; rw [← hpc']; exact hRS7.out
       have hpw : IntKind.i64.wrap (pc' + 1) = pc' + 1 := IntWalk.i64_in _ (by omega)
       have hkx := hidden (show OkS E { s' with pc := s'.pc + 1 } from { hk1 with })
       replace hR' := hidden hR'
       replace hpc' := hidden hpc'
       clear hsc4 h1 hc6 ht6 hm6 hRS6 hRS5 n1' n2' hk1 hkeep hRS7
       go_wp2_with fail
       go_roundg k
       case measure => omega
       case rel => exact ⟨_, V3, by show 0 ≤ s'.pc + 1; rw [hpc'.out]; exact hk2, by show s'.pc + 1 ≤ n; rw [hpc'.out]; exact hk3, hR', hkx, hRSx⟩
     ·omega
    ·-- an end
     have hex := hidden (iex_any W1 B q V' X E s hRS2.out.m 31 arg hau)
     go_wp2_with fail
     refine hex.out.mono ?_
     clear hex
     rintro x w3 ⟨rfl, hX3⟩
     have hRS3 := hidden (hRS2.out.ext hX3)
     have e0 := hX3.cell b0
     have e1 := hX3.cell b1
     have zl3 := Nat.lt_of_lt_of_le zlt hX3.size
     clear hRS2 b0 b1 zlt hX3
     rcases hsc2.out with ⟨hx1, hx2⟩ | ⟨hx1, hsc3⟩
     ·rw [hx1]
      replace hx2 := hidden hx2
      clear hsc2 hx1
      go_wp2_with fail
      refine (idem_false 2 _).mono ?_
      rintro x w4 ⟨rfl, hw4⟩
      rw [hw4]
      unfold failI
      go_wp2_with fail
      refine ⟨rfl, ?_⟩
      show RunP _ _ _ _ _ _ R _ _
      rw [hx2.out]
      exact ⟨rfl, hRS3.out.c⟩
     rw [hx1]
     replace hx1 := hidden hx1
     replace hsc3 := hidden hsc3
     clear hsc2
     go_wp2_with fail
     refine (idem_true 2 _).mono ?_
     rintro x w4 ⟨rfl, hw4⟩
     rw [hw4]
     clear hw4
     go_wp2_with fail
     refine (hef.out _).mono ?_
     rintro x w4 ⟨rfl, hX4⟩
     have hRS4 := hidden (hRS3.out.ext hX4)
     have g0 := hX4.cell e0
     have g1 := hX4.cell e1
     have zl4 := Nat.lt_of_lt_of_le zl3 hX4.size
     clear hRS3 e0 e1 zl3 hX4
     have hpop := hidden (ipop_any pp hps.out.1 hps.out.2 w4 B q V' X E s hRS4.out.m (Nat.le_trans hRS4.out.bl (Nat.le_trans hn0.out hRS4.out.nl)) hs2.out)
     go_wp2_with fail
     refine hpop.out.mono ?_
     clear hpop
     intro x w5 hpp5
     rcases hsc3.out with ⟨e, hpe5, hRe⟩ | ⟨l, r', hpe5, hsc4⟩
     ·change PopP w4 B q V' X E _ (popF pp.data.toList s.st (baseF s.fr)) x w5 at hpp5
      rw [hpe5] at hpp5
      obtain ⟨rfl, hc5⟩ := hpp5
      have hlast := hidden (hRS4.out.last hn0.out hc5)
      replace hRe := hidden hRe
      clear hsc3 hpe5 hc5
      unfold failI
      go_wp2_with fail
      refine ⟨rfl, ?_⟩
      show RunP _ _ _ _ _ _ R _ _
      rw [hRe.out]
      exact ⟨rfl, hlast.out⟩
     change PopP w4 B q V' X E _ (popF pp.data.toList s.st (baseF s.fr)) x w5 at hpp5
     rw [hpe5] at hpp5
     obtain ⟨vl', V2, rfl, hRd, hoff, hm5, hc5, ht5⟩ := hpp5
     have hRS5 := hidden (hRS4.out.next hn0.out hm5 hc5 ht5)
     have k0 := hc5.cell hzV g0
     have k1 := hc5.cell hzV g1
     have hok5 := hidden (oks_s1 (l := l) (r := r') hE'.out hs.out (by rw [hops.out]; first | exact Or.inl rfl | exact Or.inr (Or.inl rfl)) hpe5)
     have hpre : Pre w5 B q V2 X E (s1F E s r') 31 arg l vl' := by
      have hB5 := hRS5.out
      refine ⟨?_, Nat.le_trans hB5.bl (Nat.le_trans hn0.out hB5.nl), hok5.out, hE'.out, hpcC.out, hp0, hpl.out, hau, hctx.out, hx1.out, ?_, fun v hv => hs.out.stv v ((pop_mem hpe5).1 v hv), hRd, hoff, ?_⟩
      ·rw [hs1.out r']; exact hB5.m
      ·rw [hpp.out, pop_len hpe5 (base_nn hs.out), size_toList]
      ·rcases hsc4 with ⟨e, h1, -⟩ | ⟨s', h1, -⟩ <;> rw [h1] <;> exact fun e => by cases e
     have hkeep := hidden (keeps_exe hE'.out hok5.out (by show 0 ≤ s.pc; exact hp0) (by show s.pc < _; exact hpl.out) 31 arg l (fun v hv => hs.out.stv v ((pop_mem hpe5).1 v hv)) (by show opS E s = _; exact hops.out) (by show argS E s = _; exact hargs.out))
     replace hsc4 := hidden hsc4
     replace hpre := hidden hpre
     clear hsc3 hRS4 g0 g1 hc5 hm5 ht5 hRd hoff
     rcases exec_tab 31 (by decide) (by decide) with ⟨f, hf, hM, hent⟩ | hcl
     ·have hlk := meth_look hRS5.out.h 31 _ hf
      have hcall := hidden (hM w5 B q V2 X E (s1F E s r') arg l vl' hpre.out)
      clear hf hM hpre
      go_wp2_with fail
      refine hcall.out.mono ?_
      clear hcall
      intro x w6 hmp
      rcases hsc4.out with ⟨e, h1, hRe⟩ | ⟨s', h1, hR'⟩
      ·rw [h1] at hmp
       obtain ⟨rfl, hc6⟩ := hmp
       have hlast := hidden (hRS5.out.last hn0.out hc6)
       replace hRe := hidden hRe
       clear hsc4 h1 hc6
       unfold failI
       go_wp2_with fail
       refine ⟨rfl, ?_⟩
       show RunP _ _ _ _ _ _ R _ _
       rw [hRe.out]
       exact ⟨rfl, hlast.out⟩
      ·rw [h1] at hmp
       obtain ⟨rfl, V3, hm6, hc6, ht6⟩ := hmp
       have hRS6 := hRS5.out.next hn0.out hm6 hc6 ht6
       obtain ⟨hk1, hk2, hk3⟩ := hkeep.out s' h1
       rw [hn.out] at hk3
       have q9 := hm6.cell 9 _ rfl
       change w6.cell? ⟨q, 9, none⟩ = some (.int .i64 s'.pc) at q9
       have fq9 := hm6.blk.frozen 9
       obtain ⟨n1', n2'⟩ := hm6.cellq 9 (.int .i64 (s'.pc + 1)) (s' := { s' with pc := s'.pc + 1 }) rfl rfl rfl
       have hRS7 := hidden (hRS6.next hn0.out n1' n2' (ToV.refl _ _ _))
       obtain ⟨pc', hpc'⟩ := ex s'.pc
       rw [hpc'] at q9 hk2 hk3
       have hRSx : Hid (RS w n1 r B q V X E V3 { s' with pc := s'.pc + 1 } (w6.setCell ⟨q, 9, none⟩ (.int .i64 (pc' + 1)))) := by show RS _ _ _ _ _ _ _ _ _ _ _; rw [← hpc']; exact hRS7.out
       have hpw : IntKind.i64.wrap (pc' + 1) = pc' + 1 := IntWalk.i64_in _ (by omega)
       have hkx := hidden (show OkS E { s' with pc := s'.pc + 1 } from { hk1 with })
       replace hR' := hidden hR'
       replace hpc' := hidden hpc'
       clear hsc4 h1 hc6 ht6 hm6 hRS6 hRS5 n1' n2' hk1 hkeep hRS7
       go_wp2_with fail
       go_roundg k
       case measure => omega
       case rel => exact ⟨_, V3, by show 0 ≤ s'.pc + 1; rw [hpc'.out]; exact hk2, by show s'.pc + 1 ≤ n; rw [hpc'.out]; exact hk3, hR', hkx, hRSx⟩
     ·omega
   ·have q28 : (op != 28) = true := by simp; exact fun e => hB (Or.inl e)
    have q31 : (op != 31) = true := by simp; exact fun e => hB (Or.inr e)
    have hs1 : Hid (∀ r', s1F E s r' = { s with st := r', steps := s.steps + 1 }) := by
     intro r'
     unfold s1F
     rw [hops.out, if_neg hB]
    have hstep := hidden (istep_any W1 B q V' X E s hRS1.out.m hs.out hE'.out)
    go_wp2_with fail
    refine hstep.out.mono ?_
    clear hstep
    intro x w2 hmp
    by_cases hfu : s.steps < E.fuel
    ·rw [show tickF E s = .go { s with steps := s.steps + 1 } by unfold tickF; rw [if_pos hfu]] at hmp
     obtain ⟨rfl, V1, hm1, hc1, ht1⟩ := hmp
     have hRS2 := hidden (hRS1.out.next hn0.out hm1 hc1 ht1)
     have hs2 := hidden (oks_tick hE'.out hs.out hfu)
     rcases hsc.out with ⟨-, hnf, -⟩ | ⟨-, hsc2⟩
     ·omega
     have hzV1 : z ∉ SV q V1 := fun hm => by
      rcases ht1 z hm with h1 | h1
      ·exact hzV h1
      ·omega
     have zlt2 : z < w2.heap.size := Nat.lt_of_lt_of_le zlt hc1.size
     have b0' := hc1.cell hzV b0
     have b1' := hc1.cell hzV b1
     replace hsc2 := hidden hsc2
     have hfu' := hidden hfu
     clear hsc hRS1 b0 b1 hzV zlt hm1 hc1 ht1 hB hfu
     have b0 := b0'
     have b1 := b1'
     have zlt := zlt2
     have hzV := hzV1
     clear b0' b1' zlt2 hzV1
     have hex := hidden (iex_any w2 B q V1 X E { s with steps := s.steps + 1 } hRS2.out.m op arg hau)
     go_wp2_with fail
     refine hex.out.mono ?_
     clear hex
     rintro x w3 ⟨rfl, hX3⟩
     have hRS3 := hidden (hRS2.out.ext hX3)
     have e0 := hX3.cell b0
     have e1 := hX3.cell b1
     have zl3 := Nat.lt_of_lt_of_le zlt hX3.size
     clear hRS2 b0 b1 zlt hX3
     rcases hsc2.out with ⟨hx1, hx2⟩ | ⟨hx1, hsc3⟩
     ·rw [hx1]
      replace hx2 := hidden hx2
      clear hsc2 hx1
      go_wp2_with fail
      refine (idem_false 2 _).mono ?_
      rintro x w4 ⟨rfl, hw4⟩
      rw [hw4]
      unfold failI
      go_wp2_with fail
      refine ⟨rfl, ?_⟩
      show RunP _ _ _ _ _ _ R _ _
      rw [hx2.out]
      exact ⟨rfl, hRS3.out.c⟩
     rw [hx1]
     replace hx1 := hidden hx1
     replace hsc3 := hidden hsc3
     clear hsc2
     go_wp2_with fail
     refine (idem_true 2 _).mono ?_
     rintro x w4 ⟨rfl, hw4⟩
     rw [hw4]
     clear hw4
     go_wp2_with fail
     refine (hef.out _).mono ?_
     rintro x w4 ⟨rfl, hX4⟩
     have hRS4 := hidden (hRS3.out.ext hX4)
     have g0 := hX4.cell e0
     have g1 := hX4.cell e1
     have zl4 := Nat.lt_of_lt_of_le zl3 hX4.size
     clear hRS3 e0 e1 zl3 hX4
     have hpop := hidden (ipop_any pp hps.out.1 hps.out.2 w4 B q V1 X E { s with steps := s.steps + 1 } hRS4.out.m (Nat.le_trans hRS4.out.bl (Nat.le_trans hn0.out hRS4.out.nl)) hs2.out)
     go_wp2_with fail
     refine hpop.out.mono ?_
     clear hpop
     intro x w5 hpp5
     rcases hsc3.out with ⟨e, hpe5, hRe⟩ | ⟨l, r', hpe5, hsc4⟩
     ·change PopP w4 B q V1 X E _ (popF pp.data.toList s.st (baseF s.fr)) x w5 at hpp5
      rw [hpe5] at hpp5
      obtain ⟨rfl, hc5⟩ := hpp5
      have hlast := hidden (hRS4.out.last hn0.out hc5)
      replace hRe := hidden hRe
      clear hsc3 hpe5 hc5
      unfold failI
      go_wp2_with fail
      refine ⟨rfl, ?_⟩
      show RunP _ _ _ _ _ _ R _ _
      rw [hRe.out]
      exact ⟨rfl, hlast.out⟩
     change PopP w4 B q V1 X E _ (popF pp.data.toList s.st (baseF s.fr)) x w5 at hpp5
     rw [hpe5] at hpp5
     obtain ⟨vl', V2, rfl, hRd, hoff, hm5, hc5, ht5⟩ := hpp5
     have hRS5 := hidden (hRS4.out.next hn0.out hm5 hc5 ht5)
     have k0 := hc5.cell hzV g0
     have k1 := hc5.cell hzV g1
     have hok5 := hidden (oks_s1 (l := l) (r := r') hE'.out hs.out (by rw [hops.out]; exact Or.inr (Or.inr hfu'.out)) hpe5)
     have hpre : Pre w5 B q V2 X E (s1F E s r') op arg l vl' := by
      have hB5 := hRS5.out
      refine ⟨?_, Nat.le_trans hB5.bl (Nat.le_trans hn0.out hB5.nl), hok5.out, hE'.out, hpcC.out, hp0, hpl.out, hau, hctx.out, hx1.out, ?_, fun v hv => hs.out.stv v ((pop_mem hpe5).1 v hv), hRd, hoff, ?_⟩
      ·rw [hs1.out r']; exact hB5.m
      ·rw [hpp.out, pop_len hpe5 (base_nn hs.out), size_toList]
      ·rcases hsc4 with ⟨e, h1, -⟩ | ⟨s', h1, -⟩ <;> rw [h1] <;> exact fun e => by cases e
     have hkeep := hidden (keeps_exe hE'.out hok5.out (by show 0 ≤ s.pc; exact hp0) (by show s.pc < _; exact hpl.out) op arg l (fun v hv => hs.out.stv v ((pop_mem hpe5).1 v hv)) (by show opS E s = _; exact hops.out) (by show argS E s = _; exact hargs.out))
     replace hsc4 := hidden hsc4
     replace hpre := hidden hpre
     clear hsc3 hRS4 g0 g1 hc5 hm5 ht5 hRd hoff
     rcases exec_tab op ho0 ho1 with ⟨f, hf, hM, hent⟩ | ⟨hcl0, hcl1⟩
     ·have hlk := meth_look hRS5.out.h op _ hf
      have hcall := hidden (hM w5 B q V2 X E (s1F E s r') arg l vl' hpre.out)
      clear hf hM hpre
      go_wp2_with fail
      refine hcall.out.mono ?_
      clear hcall
      intro x w6 hmp
      rcases hsc4.out with ⟨e, h1, hRe⟩ | ⟨s', h1, hR'⟩
      ·rw [h1] at hmp
       obtain ⟨rfl, hc6⟩ := hmp
       have hlast := hidden (hRS5.out.last hn0.out hc6)
       replace hRe := hidden hRe
       clear hsc4 h1 hc6
       unfold failI
       go_wp2_with fail
       refine ⟨rfl, ?_⟩
       show RunP _ _ _ _ _ _ R _ _
       rw [hRe.out]
       exact ⟨rfl, hlast.out⟩
      ·rw [h1] at hmp
       obtain ⟨rfl, V3, hm6, hc6, ht6⟩ := hmp
       have hRS6 := hRS5.out.next hn0.out hm6 hc6 ht6
       obtain ⟨hk1, hk2, hk3⟩ := hkeep.out s' h1
       rw [hn.out] at hk3
       have q9 := hm6.cell 9 _ rfl
       change w6.cell? ⟨q, 9, none⟩ = some (.int .i64 s'.pc) at q9
       have fq9 := hm6.blk.frozen 9
       obtain ⟨n1', n2'⟩ := hm6.cellq 9 (.int .i64 (s'.pc + 1)) (s' := { s' with pc := s'.pc + 1 }) rfl rfl rfl
       have hRS7 := hidden (hRS6.next hn0.out n1' n2' (ToV.refl _ _ _))
       obtain ⟨pc', hpc'⟩ := ex s'.pc
       rw [hpc'] at q9 hk2 hk3
       have hRSx : Hid (RS w n1 r B q V X E V3 { s' with pc := s'.pc + 1 } (w6.setCell ⟨q, 9, none⟩ (.int .i64 (pc' + 1)))) := by show RS _ _ _ _ _ _ _ _ _ _ _; rw [← hpc']; exact hRS7.out
       have hpw : IntKind.i64.wrap (pc' + 1) = pc' + 1 := IntWalk.i64_in _ (by omega)
       have hkx := hidden (show OkS E { s' with pc := s'.pc + 1 } from { hk1 with })
       replace hR' := hidden hR'
       replace hpc' := hidden hpc'
       clear hsc4 h1 hc6 ht6 hm6 hRS6 hRS5 n1' n2' hk1 hkeep hRS7
       go_wp2_with fail
       go_roundg k
       case measure => omega
       case rel => exact ⟨_, V3, by show 0 ≤ s'.pc + 1; rw [hpc'.out]; exact hk2, by show s'.pc + 1 ≤ n; rw [hpc'.out]; exact hk3, hR', hkx, hRSx⟩
     ·have hlk := meth_none hRS5.out.h op hcl0 hcl1
      have hcall := hidden (m_calculate op hcl0 hcl1 w5 B q V2 X E (s1F E s r') arg l vl' hpre.out)
      clear hpre
      go_wp2_with fail
      refine hcall.out.mono ?_
      clear hcall
      intro x w6 hmp
      rcases hsc4.out with ⟨e, h1, hRe⟩ | ⟨s', h1, hR'⟩
      ·rw [h1] at hmp
       obtain ⟨rfl, hc6⟩ := hmp
       have hlast := hidden (hRS5.out.last hn0.out hc6)
       replace hRe := hidden hRe
       clear hsc4 h1 hc6
       unfold failI
       go_wp2_with fail
       refine ⟨rfl, ?_⟩
       show RunP _ _ _ _ _ _ R _ _
       rw [hRe.out]
       exact ⟨rfl, hlast.out⟩
      ·rw [h1] at hmp
       obtain ⟨rfl, V3, hm6, hc6, ht6⟩ := hmp
       have hRS6 := hRS5.out.next hn0.out hm6 hc6 ht6
       obtain ⟨hk1, hk2, hk3⟩ := hkeep.out s' h1
       rw [hn.out] at hk3
       have q9 := hm6.cell 9 _ rfl
       change w6.cell? ⟨q, 9, none⟩ = some (.int .i64 s'.pc) at q9
       have fq9 := hm6.blk.frozen 9
       obtain ⟨n1', n2'⟩ := hm6.cellq 9 (.int .i64 (s'.pc + 1)) (s' := { s' with pc := s'.pc + 1 }) rfl rfl rfl
       have hRS7 := hidden (hRS6.next hn0.out n1' n2' (ToV.refl _ _ _))
       obtain ⟨pc', hpc'⟩ := ex s'.pc
       rw [hpc'] at q9 hk2 hk3
       have hRSx : Hid (RS w n1 r B q V X E V3 { s' with pc := s'.pc + 1 } (w6.setCell ⟨q, 9, none⟩ (.int .i64 (pc' + 1)))) := by show RS _ _ _ _ _ _ _ _ _ _ _; rw [← hpc']; exact hRS7.out
       have hpw : IntKind.i64.wrap (pc' + 1) = pc' + 1 := IntWalk.i64_in _ (by omega)
       have hkx := hidden (show OkS E { s' with pc := s'.pc + 1 } from { hk1 with })
       replace hR' := hidden hR'
       replace hpc' := hidden hpc'
       clear hsc4 h1 hc6 ht6 hm6 hRS6 hRS5 n1' n2' hk1 hkeep hRS7
       go_wp2_with fail
       go_roundg k
       case measure => omega
       case rel => exact ⟨_, V3, by show 0 ≤ s'.pc + 1; rw [hpc'.out]; exact hk2, by show s'.pc + 1 ≤ n; rw [hpc'.out]; exact hk3, hR', hkx, hRSx⟩
    ·rw [show tickF E s = .err 19 by unfold tickF; rw [if_neg hfu]] at hmp
     obtain ⟨rfl, hc1⟩ := hmp
     have hlast := hidden (hRS1.out.last hn0.out hc1)
     have hRe : Hid (R = .error 19) := by
      rcases hsc.out with ⟨-, -, h3⟩ | ⟨h3, -⟩
      ·exact h3
      ·exfalso
       rcases h3 with h3 | h3 | h3
       ·exact hB (Or.inl h3)
       ·exact hB (Or.inr h3)
       ·exact hfu h3
     clear hsc hc1 hfu hB
     unfold failI
     go_wp2_with fail
     refine ⟨rfl, ?_⟩
     show RunP _ _ _ _ _ _ R _ _
     rw [hRe.out]
     exact ⟨rfl, hlast.out⟩
  ·obtain rfl : p = n := by omega
   have hRend := hR.out
   unfold runN at hRend
   rw [if_pos (by rw [hpe, hn.out]; exact Int.le_refl _)] at hRend
   have c10 := hm.cell 10 _ rfl
   have hst := hm.row 2 _ rfl
   unfold Row.own at hst
   simp only at hst
   obtain ⟨as', cs', hVs, -, -, -⟩ := own_shape hst
   rw [hVs] at c10
   have c4' := hm.env.c
   obtain ⟨aC, cC, hvC, -, -, -⟩ := Rd.shape (show Rd wr 2 X.c E.C.length (E.C.flatMap cI) from hm.env.c)
   rw [hn.out] at hvC
   rw [hvC] at c4
   obtain ⟨ns, hnse⟩ := ex s.st.length
   rw [hnse] at c10
   have hd1 := hidden (idem_true 14)
   have hd0 := hidden (idem_false 14)
   replace hvC := hidden hvC
   replace hVs := hidden hVs
   replace hpe := hidden hpe
   clear hm hst c4'
   by_cases hs0 : ns = 0
   ·subst hs0
    rw [if_pos (List.eq_nil_of_length_eq_zero hnse)] at hRend
    have hRe := hidden (Option.some.inj hRend)
    replace hnse := hidden hnse
    clear hRend
    go_wp2_with fail
    go_quiet (fail)
    all_goals go_wp2_with fail
    refine (hd1.out _).mono ?_
    rintro x w2 ⟨rfl, hw2⟩
    rw [hw2]
    go_wp2_with fail
    go_end0
    show RunP _ _ _ _ _ _ R _ _
    rw [← hRe.out]
    have hx := hRS.out.ext ((Ext.refl wr).drewN nq)
    exact ⟨rfl, V', s, hx.m, hs.out, rfl, rfl, rfl, rfl, hx.c⟩
   ·rw [if_neg (fun e => hs0 (by rw [← hnse, e]; rfl))] at hRend
    have hRe := hidden (Option.some.inj hRend)
    have hnq : ((ns : Int) == 0) = false := by simp; exact hs0
    have hnq2 : decide ((ns : Int) = 0) = false := decide_eq_false (by omega)
    have hnpos : 0 < ns := by omega
    replace hnse := hidden hnse
    clear hRend hs0
    go_wp2_with fail
    go_quiet (fail)
    all_goals go_wp2_with fail
    refine (hd0.out _).mono ?_
    rintro x w2 ⟨rfl, hw2⟩
    rw [hw2]
    unfold failI
    go_wp2_with fail
    refine ⟨rfl, ?_⟩
    show RunP _ _ _ _ _ _ R _ _
    rw [← hRe.out]
    exact ⟨rfl, (hRS.out.ext ((Ext.refl wr).drewN nq)).c⟩
end Go.Proofs.YtgjjklajipekdaaGreat
