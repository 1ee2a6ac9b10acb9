
import Derived.Test.YtgjjklajipekdaaGreatYt
import Derived.Test.YtgjjklajipekdaaGreatYd
import Derived.Defers
import Derived.Recover
import Derived.Test.YtgjjklajipekdaaGreatYp
namespace Go.Proofs.YtgjjklajipekdaaGreat
set_option maxHeartbeats 16000000
set_option maxRecDepth 100000
open Go.RowKit
set_option linter.unusedVariables false
set_option linter.unusedSimpArgs false
attribute [local go_sem ↓] Go.wp_at_zero Go.wp_at_succ
@[local go_sem] theorem asFi (v : Value) (w : World) : (Instr.typeAssert (.iface 100 v) 20 100 true).run Tryz.prog w = .ok (.tuple #[v, .bool true]) w := by kernel_rfl
theorem irescue_idle (p q : Addr) (w : World) :
  CallsD Tryz.prog 49 #[.pointer (some p), .pointer (some q)] .returning w fun e u' w' => e = .returned (.tuple #[]) ∧ u' = .returning ∧ w' = w := by
 refine callsD_of_wpS Tryz.func49 rfl fun c₀ cs hu => ?_
 apply wpS_seq
 apply wpS_region
 simp [wpOpsS, go_sem, recoverD, hu, Tryz.ntmps49, Exit.thenS]
 apply wpS_seq
 apply wpS_region
 simp [wpOpsS, go_sem]
 simp only [Exit.thenS]
 refine wpS_cond (t := false) (by simp [Act.eval, Array.replicate]) ?_
 simp only [Bool.false_eq_true, if_false]
 refine wpS_of_wp (wp_skip ?_)
 cases c₀
 simp_all [bodyPostS, results, Tryz.f49, go_sem]
def runC (a c o s : Value) : List Value := [a, c, o, s]
theorem irescue_panic (p q : Nat) (e : Int) (a c o s : Value) (y0 : Int) (w : World) (hp : Blk w p 48 (runC a c o s)) (hq : Blk w q 33 [.int .i64 y0]) (hne : p ≠ q) :
  CallsD Tryz.prog 49 #[.pointer (some ⟨p, 0, none⟩), .pointer (some ⟨q, 0, none⟩)] (.panicking [{ v := .iface 100 (.agg #[.int .i64 e]), recovered := false }]) w fun x u' w' =>
   x = .returned (.tuple #[]) ∧ u' = .panicking [{ v := .iface 100 (.agg #[.int .i64 e]), recovered := true }] ∧ Blk w' p 48 (runC (.slice none 0 0) (.slice none 0 0) (.slice none 0 0) (.int .i64 0)) ∧ Blk w' q 33 [.int .i64 e] ∧ Chg [p, q] w w' := by
 refine callsD_of_wpS Tryz.func49 rfl fun c₀ cs hu => ?_
 apply wpS_seq
 apply wpS_region
 simp [wpOpsS, go_sem, recoverD, hu, Tryz.ntmps49, Exit.thenS]
 apply wpS_seq
 apply wpS_region
 simp [wpOpsS, go_sem]
 simp only [Exit.thenS]
 refine wpS_cond (t := true) (by simp [Act.eval, Array.replicate]) ?_
 simp only [if_true]
 apply wpS_seq
 apply wpS_region
 simp [wpOpsS, go_sem, Array.replicate]
 simp only [Exit.thenS]
 apply wpS_seq
 apply wpS_seq
 apply wpS_region
 simp [wpOpsS, go_sem]
 simp only [Exit.thenS]
 refine wpS_cond (t := false) (by simp [Act.eval]) ?_
 simp only [Bool.false_eq_true, if_false]
 refine wpS_of_wp (wp_skip ?_)
 simp only [Exit.thenS]
 refine wpS_of_wp (wp_hide fun KK hKK => ?_)
 have g1 : Ext w (w.alloc (Obj.cells #[Value.int IntKind.i64 e] 100)) := (Ext.refl w).alloc _
 have n0 : Blk (w.alloc (Obj.cells #[Value.int IntKind.i64 e] 100)) w.heap.size 100 [.int .i64 e] := Blk.new w [.int .i64 e] _
 have hp1 := hp.ext g1
 have hq1 := hq.ext g1
 have hpb := hp.lt
 have hqb := hq.lt
 unfold runC at hp1
 obtain ⟨p0, p1, p2, p3⟩ := hp1.c4
 have q0 := hq1.cell 0 _ rfl
 obtain ⟨f0, f1, f2, f3⟩ := hp1.fz4
 have k0 := hq1.frozen 0
 have m0 := n0.cell 0 _ rfl
 obtain ⟨z, hz⟩ := ex w.heap.size
 rw [hz] at n0 m0 hpb hqb ⊢
 generalize w.alloc (Obj.cells #[Value.int IntKind.i64 e] 100) = w1 at *
 have hps : ¬ p = z := by omega
 have hqs : ¬ q = z := by omega
 have hsp : ¬ z = p := by omega
 have hsq : ¬ z = q := by omega
 have hqp : ¬ q = p := fun h => hne h.symm
 replace hp1 := hidden hp1
 replace hq1 := hidden hq1
 clear hp hq n0
 go_region
 have hpf : Blk (((((w1.setCell ⟨p, 0, none⟩ (.slice none 0 0)).setCell ⟨p, 1, none⟩ (.slice none 0 0)).setCell ⟨p, 2, none⟩ (.slice none 0 0)).setCell ⟨p, 3, none⟩ (.int .i64 0)).setCell ⟨q, 0, none⟩ (.int .i64 e)).drew p 48 (runC (.slice none 0 0) (.slice none 0 0) (.slice none 0 0) (.int .i64 0)) :=
  (((((hp1.out.set 0 (.slice none 0 0)).set 1 (.slice none 0 0)).set 2 (.slice none 0 0)).set 3 (.int .i64 0)).set_other hne (.int .i64 e)).drew
 have hqf : Blk (((((w1.setCell ⟨p, 0, none⟩ (.slice none 0 0)).setCell ⟨p, 1, none⟩ (.slice none 0 0)).setCell ⟨p, 2, none⟩ (.slice none 0 0)).setCell ⟨p, 3, none⟩ (.int .i64 0)).setCell ⟨q, 0, none⟩ (.int .i64 e)).drew q 33 [.int .i64 e] :=
  (((((hq1.out.set_other (i := 0) hqp (.slice none 0 0)).set_other (i := 1) hqp (.slice none 0 0)).set_other (i := 2) hqp (.slice none 0 0)).set_other (i := 3) hqp (.int .i64 0)).set 0 (.int .i64 e)).drew
 have hcf : Chg [p, q] w (((((w1.setCell ⟨p, 0, none⟩ (.slice none 0 0)).setCell ⟨p, 1, none⟩ (.slice none 0 0)).setCell ⟨p, 2, none⟩ (.slice none 0 0)).setCell ⟨p, 3, none⟩ (.int .i64 0)).setCell ⟨q, 0, none⟩ (.int .i64 e)).drew :=
  ((((((Chg.of_ext _ g1).setCell (p := ⟨p, 0, none⟩) (by simp) _).setCell (p := ⟨p, 1, none⟩) (by simp) _).setCell (p := ⟨p, 2, none⟩) (by simp) _).setCell (p := ⟨p, 3, none⟩) (by simp) _).setCell (p := ⟨q, 0, none⟩) (by simp) _).drew
 exact hKK _ _ _ ⟨rfl, _, rfl, .tuple #[], by simp [results, Tryz.f49, go_sem], rfl, rfl, hpf, hqf, hcf⟩
theorem RowsL.base {w : World} {B B' q : Nat} {L : List Row} (h : RowsL w B q L) (hb : B' ≤ B) : RowsL w B' q L :=
 ⟨fun r hr => own_mono (h.own r hr) hb, h.nodup, Nat.le_trans hb h.q0, h.q1⟩
theorem mst_new {w : World} {B p q : Nat} {va vc vl : Value} {vs : List Value} {ar : List (List Int)} {cx : List Int} {X : EV} {E : Env} (hR : RowsL w B p (memRows va vc vs ar cx)) (hal : vs.length = ar.length)
  (hlo : (arow vl (List.replicate E.L.toNat 0)).own w B) (hdis : ∀ x, vl.ownBlock = some x → x ∉ blks (memRows va vc vs ar cx)) (hblk : Blk w q LP.tm (mcP ⟨va, vc, .slice none 0 0, .slice none 0 0, vl, .slice none 0 0, vs⟩ X E (startS E ar cx)))
  (hqB : B ≤ q) (hq : q ∉ blks (memRows va vc vs ar cx)) (hql : vl.ownBlock ≠ some q) (henv : EnvM w B X E) : MSt LP w B q ⟨va, vc, .slice none 0 0, .slice none 0 0, vl, .slice none 0 0, vs⟩ X E (startS E ar cx) := by
 refine ⟨hblk, ⟨?_, ?_, hqB, hblk.lt⟩, henv, hal⟩
 ·intro r hr
  simp only [rowsG, startS, List.mem_append, List.mem_cons, List.not_mem_nil, or_false] at hr
  rcases hr with (rfl | rfl | rfl | rfl | rfl | rfl) | hr
  ·exact hR.own _ (List.mem_of_getElem? (i := 0) rfl)
  ·exact hR.own _ (List.mem_of_getElem? (i := 1) rfl)
  ·exact World.ownsRow_nil _ _ _ _
  ·exact World.ownsRow_nil _ _ _ _
  ·exact hlo
  ·exact World.ownsRow_nil _ _ _ _
  ·exact hR.own r (List.mem_append.2 (Or.inr hr))
 ·have hn := hR.nodup
  have e1 : blks (memRows va vc vs ar cx) = va.ownBlock.toList ++ (vc.ownBlock.toList ++ blks (List.zipWith arow vs ar)) := by simp [memRows, blks, arow]
  have e2 : blks (rowsG LP ⟨va, vc, .slice none 0 0, .slice none 0 0, vl, .slice none 0 0, vs⟩ (startS E ar cx)) = va.ownBlock.toList ++ (vc.ownBlock.toList ++ (vl.ownBlock.toList ++ blks (List.zipWith arow vs ar))) := by
   simp [rowsG, blks, arow, startS, show (Value.slice none 0 0).ownBlock = none from rfl]
  have hp : (q :: blks (rowsG LP ⟨va, vc, .slice none 0 0, .slice none 0 0, vl, .slice none 0 0, vs⟩ (startS E ar cx))).Perm (q :: (vl.ownBlock.toList ++ blks (memRows va vc vs ar cx))) := by
   refine List.Perm.cons _ ?_
   rw [e1, e2]
   generalize va.ownBlock.toList = l1
   generalize vc.ownBlock.toList = l2
   generalize vl.ownBlock.toList = l3
   generalize blks (List.zipWith arow vs ar) = l4
   have h1 : (l1 ++ (l2 ++ (l3 ++ l4))).Perm ((l1 ++ l2) ++ (l3 ++ l4)) := by rw [List.append_assoc]
   refine h1.trans ?_
   have h2 : ((l1 ++ l2) ++ (l3 ++ l4)).Perm ((l3 ++ (l1 ++ l2)) ++ l4) := by
    rw [← List.append_assoc]
    exact List.Perm.append_right _ List.perm_append_comm
   refine h2.trans ?_
   rw [List.append_assoc, List.append_assoc]
  rw [hp.nodup_iff, List.nodup_cons, List.nodup_append]
  refine ⟨?_, by cases vl.ownBlock <;> simp, (List.nodup_cons.1 hn).2, ?_⟩
  ·rw [List.mem_append]
   rintro (h | h)
   ·exact hql (by simpa using h)
   ·exact hq h
  ·intro a ha b hb e
   subst e
   exact hdis a (by simpa using ha) hb
theorem leaves_congr {P : Program} {fn : Func} {t t' : Array Value} {R : Ending → World → Prop} (h : results fn t = results fn t') : ∀ (ds : List Deferred) (u : FrameMode) (w : World), Leaves P fn t R ds u w → Leaves P fn t' R ds u w
 | [], .returning, w, H => by unfold Leaves at H ⊢; rw [← h]; exact H
 | [], .panicking chain, w, H => H
 | [], .run, w, H => H
 | d :: ds, u, w, H => by
  unfold Leaves at H ⊢
  obtain ⟨h1, fv, cap, f, args, h2, h3, h4⟩ := H
  refine ⟨h1, fv, cap, f, args, h2, h3, h4.mono ?_⟩
  intro e u' w' h5
  cases e with
  | returned v => exact leaves_congr h ds _ w' h5
  | panicked c => exact leaves_congr h ds _ w' h5
  | outgrown => exact h5
theorem getD_set_v {d i : Nat} (h : d ≠ i) (t : Array Value) (v u : Value) : (t.setIfInBounds d v).getD i u = t.getD i u := by
 simp only [Array.getD_eq_getD_getElem?, Array.getElem?_setIfInBounds_ne h]
theorem exe_put {R : Ending → World → Prop} {K : Act → World → Prop} (d : Tmp) (h8 : d ≠ 8) (h9 : d ≠ 9) {c : List PanicEntry} {a : Act} {v : Value} {w : World}
  (h : Exit.then K (bodyPostD Tryz.prog Tryz.f39 R) (.panic c) (a.put (some d) v) w) : Exit.then K (bodyPostD Tryz.prog Tryz.f39 R) (.panic c) a w := by
 have h' : Leaves Tryz.prog Tryz.f39 (a.tmps.setIfInBounds d v) R a.defers (.panicking c) w := h
 show Leaves Tryz.prog Tryz.f39 a.tmps R a.defers (.panicking c) w
 refine leaves_congr ?_ _ _ _ h'
 have e8 : (a.tmps.setIfInBounds d v).getD 8 undef = a.tmps.getD 8 undef := getD_set_v h8 _ _ _
 have e9 : (a.tmps.setIfInBounds d v).getD 9 undef = a.tmps.getD 9 undef := getD_set_v h9 _ _ _
 simp only [Array.getD_eq_getD_getElem?] at e8 e9
 unfold results
 simp [Tryz.f39, e8, e9]
theorem wpOp_callV {P : Program} {ops : Array Oper} {Q : Exit → Act → World → Prop} {k : Act → World → Prop} (i : Nat) {oi : Oper} {d : Tmp} {a : Act} {w : World} (f : FuncId) (args : Array Value) {R : Ending → World → Prop} (hi : ops[i]? = some oi) (hd : oi.dst = some d)
  (hw : Region.wanted oi (yielded ops a.tmps) = true) (hrun : (execOp a.eval oi).run P w = .ok (.enter f args) w) (hc : Calls P f args w R)
  (h : ∀ e w', R e w' → ∃ v, e = .returned v ∧ k { a with tmps := a.tmps.setIfInBounds d v } w') : wpOp P ops Q i k a w := by
 unfold wpOp
 simp only [hi, hw, if_true]
 left
 unfold Oper.wp
 rw [hrun]
 refine Calls.mono hc ?_
 intro e w' hR
 obtain ⟨v, rfl, hk⟩ := h e w' hR
 show k (a.put oi.dst v) w'
 rw [hd]
 exact hk
theorem wpOp_valueV {P : Program} {ops : Array Oper} {Q : Exit → Act → World → Prop} {k : Act → World → Prop} (i : Nat) (v : Value) {oi : Oper} {d : Tmp} {a : Act} {w w' : World} (hi : ops[i]? = some oi) (hd : oi.dst = some d)
  (hw : Region.wanted oi (yielded ops a.tmps) = true) (hrun : (execOp a.eval oi).run P w = .ok (.value v) w') (h : k { a with tmps := a.tmps.setIfInBounds d v } w') : wpOp P ops Q i k a w := by
 unfold wpOp
 simp only [hi, hw, if_true]
 left
 unfold Oper.wp
 rw [hrun]
 show k (a.put oi.dst v) w'
 rw [hd]
 exact h
theorem rows_mem {w : World} {B q : Nat} {V : Vs} {s : MS} (h : RowsL w B q (rowsG LP V s)) : MemO w B V.arr V.cx s.ar s.cx ∧ w.ownsRow B 5 1 V.out s.out.length (s.out.map (Value.int .u8)) := by
 refine ⟨⟨V.ars, h.own _ (List.mem_of_getElem? (i := 0) rfl), fun i v a hv ha => ?_, h.own (arow V.cx s.cx) (List.mem_of_getElem? (i := 1) rfl)⟩, h.own _ (List.mem_of_getElem? (i := 5) rfl)⟩
 refine h.own (arow v a) (List.mem_of_getElem? (i := i + 6) ?_)
 show (List.zipWith arow V.ars s.ar)[i]? = _
 exact zip_at V.ars s.ar i v a hv ha
def ExeP (w : World) (E : Env) (R : Out) (x : Ending) (w' : World) : Prop :=
 match R with
 | .error e => x = .returned (.tuple #[.agg #[.slice none 0 0, .slice none 0 0, .slice none 0 0, .int .i64 0], .int .i64 e]) ∧ Ext w w'
 | .ok (ar, cx, out, steps) => ∃ va vc vo s', x = .returned (.tuple #[.agg #[va, vc, vo, .int .i64 steps], .int .i64 0]) ∧ MemO w' w.heap.size va vc ar cx ∧ w'.ownsRow w.heap.size 5 1 vo out.length (out.map (Value.int .u8)) ∧ OkS E s' ∧ s'.ar = ar ∧ s'.cx = cx ∧ s'.out = out ∧ s'.steps = steps ∧ Ext w w'
theorem iexecute_any (va vc vp ma mc : Value) (E : Env) (ar : List (List Int)) (cx : List Int) (hE : OkE E) (w : World) (ra : Arr w va E.A) (rc : Cod w vc E.C) (rp : RdP w vp E.P) (hM : MemR w ma mc ar cx) (hS : OkS E (startS E ar cx)) (N : Nat) (R : Out) (hR : runN E N (startS E ar cx) = some R) :
  Calls Tryz.prog 39 #[.agg #[va, .int .i64 E.L, vc], vp, .agg #[ma, mc], .agg #[.int .u32 E.inp, .bool E.ended, .int .i64 E.fuel]] w (ExeP w E R) := by
 obtain ⟨L, hL⟩ := Int.eq_ofNat_of_zero_le hE.L0
 have hL1 : L ≤ 16 := by have := hE.L1; omega
 obtain ⟨inp, hinp⟩ := ex E.inp
 obtain ⟨en, hen⟩ := ex E.ended
 obtain ⟨fu, hfu⟩ := ex E.fuel
 rw [hL, hinp, hen, hfu]
 obtain ⟨b, hb⟩ := ex w.heap.size
 obtain ⟨W1, hW1, X1, P1⟩ := alx w #[va, .int .i64 L, vc] [va, .int .i64 L, vc] 25 b hb
 have s1 : W1.heap.size = b + 1 := by rw [← hW1, ← hb]; exact Array.size_push ..
 obtain ⟨W2, hW2, X2, P2⟩ := alx W1 #[ma, mc] [ma, mc] 29 (b + 1) s1
 have s2 : W2.heap.size = b + 2 := by rw [← hW2]; show (W1.heap.push _).size = _; rw [Array.size_push, s1]
 obtain ⟨W3, hW3, X3, P3⟩ := alx W2 #[.int .u32 inp, .bool en, .int .i64 fu] [.int .u32 inp, .bool en, .int .i64 fu] 44 (b + 2) s2
 have s3 : W3.heap.size = b + 3 := by rw [← hW3]; show (W2.heap.push _).size = _; rw [Array.size_push, s2]
 obtain ⟨W4, hW4, X4, P4⟩ := alx W3 #[.slice none 0 0, .slice none 0 0, .slice none 0 0, .int .i64 0] [.slice none 0 0, .slice none 0 0, .slice none 0 0, .int .i64 0] 48 (b + 3) s3
 have s4 : W4.heap.size = b + 4 := by rw [← hW4]; show (W3.heap.push _).size = _; rw [Array.size_push, s3]
 obtain ⟨W5, hW5, X5, P5⟩ := alx W4 #[.int .i64 0] [.int .i64 0] 33 (b + 4) s4
 have s5 : W5.heap.size = b + 5 := by rw [← hW5]; show (W4.heap.push _).size = _; rw [Array.size_push, s4]
 have Y4 := X4.trans X5
 have Y3 := X3.trans Y4
 have Y2 := X2.trans Y3
 have XW := hidden (X1.trans Y2)
 replace P1 := P1.ext Y2
 replace P2 := P2.ext Y3
 replace P3 := P3.ext Y4
 replace P4 := hidden (P4.ext X5)
 replace P5 := hidden P5
 obtain ⟨p0, p1, p2⟩ := P1.c3
 obtain ⟨m0, m1⟩ := P2.c2
 obtain ⟨c0, c1, c2⟩ := P3.c3
 have hW : Hid ((((((w.alloc (.cells #[va, .int .i64 L, vc] 25)).alloc (.cells #[ma, mc] 29)).alloc (.cells #[.int .u32 inp, .bool en, .int .i64 fu] 44)).alloc (.cells #[.slice none 0 0, .slice none 0 0, .slice none 0 0, .int .i64 0] 48)).alloc (.cells #[.int .i64 0] 33)) = W5) := hidden (by rw [hW1, hW2, hW3, hW4, hW5])
 clear X1 X2 X3 X4 X5 Y2 Y3 Y4 hW1 hW2 hW3 hW4 hW5 s1 s2 s3 s4 P1 P2 P3
 clear W1 W2 W3 W4
 have raI := hidden ra
 have rcI := hidden rc
 have rpI := hidden rp
 have hMI := hidden hM
 have hal1 : ∀ a ∈ ar, a.length ≤ 100000 := fun a ha => by have := (hS.arv a ha).1; omega
 have hlr8 : ar.length ≤ 100000 := by have h1 := hS.ar; have h2 := hE.A8; have h3 : (startS E ar cx).ar.length = ar.length := rfl; omega
 have hcx1 : cx.length ≤ 100000 := by have h1 := hS.cx; have h3 : (startS E ar cx).cx.length = cx.length := rfl; omega
 obtain ⟨aa, ca, rfl, -⟩ := Rd.shape ra
 obtain ⟨ac, cc, rfl, -⟩ := Rd.shape rc
 obtain ⟨ap, cp, rfl, -⟩ := Rd.shape rp
 obtain ⟨aM, cM, hma, -⟩ := Rd.shape hM.choose_spec.1
 obtain ⟨aC, cC, hmc, -⟩ := Rd.shape hM.choose_spec.2.2
 subst hma
 subst hmc
 have hcop := hidden (fun (W : World) (h : Ext W5 W) => icopied_any W _ _ ar cx (hMI.out.ext (XW.out.trans h)) hlr8 hal1 hcx1)
 replace hE := hidden hE
 replace hS := hidden hS
 replace hR := hidden hR
 replace hL := hidden hL
 replace hinp := hidden hinp
 replace hen := hidden hen
 replace hfu := hidden hfu
 clear ra rc rp hM
 generalize hla : E.A.length = la at *
 generalize hlc : E.C.length = lc at *
 generalize hlp : E.P.length = lp at *
 generalize hlr : ar.length = lr at *
 generalize hlx : cx.length = lx at *
 replace hla := hidden hla
 replace hlc := hidden hlc
 replace hlp := hidden hlp
 replace hlr := hidden hlr
 replace hlx := hidden hlx
 go_enter_defers Tryz.func39, Tryz.ntmps39
 go_upto_region 2 with fail
 rw [hW.out, show b + 1 + 1 + 1 + 1 = b + 4 from rfl, show b + 1 + 1 + 1 = b + 3 from rfl, show b + 1 + 1 = b + 2 from rfl]
 generalize hQQ : Exit.then _ _ = QQ
 have hQ : ∀ (d : Tmp), d ≠ 8 → d ≠ 9 → ∀ {c : List PanicEntry} {a : Act} {v : Value} {w : World}, QQ (.panic c) (a.put (some d) v) w → QQ (.panic c) a w := by
  intro d h8 h9 c a v w h
  rw [← hQQ] at h ⊢
  exact exe_put d h8 h9 h
 have hQQI := hidden hQQ
 clear hQQ
 have fin : Hid (∀ (al ak vla : Option Addr) (cl ck : Nat) (vs : List Value) (p : Nat) (w3 : World), Hid (RowsL w3 (b + 5) p (memRows (.slice al lr cl) (.slice ak lx ck) vs ar cx)) → Hid (vs.length = lr) → Hid ((arow (.slice vla L L) (List.replicate L 0)).own w3 (b + 5)) → Hid (∀ x, (Value.slice vla L L).ownBlock = some x → x ∉ blks (memRows (.slice al lr cl) (.slice ak lx ck) vs ar cx)) → Hid (Ext W5 w3) → QQ .normal { tmps := #[.agg #[.slice aa la ca, .int .i64 (L : Int), .slice ac lc cc], .slice ap lp cp, .agg #[.slice aM lr cM, .slice aC lx cC], .agg #[.int .u32 inp, .bool en, .int .i64 fu], .pointer (some ⟨b, 0, none⟩), undef, .pointer (some ⟨b + 1, 0, none⟩), .pointer (some ⟨b + 2, 0, none⟩), .pointer (some ⟨b + 3, 0, none⟩), .pointer (some ⟨b + 4, 0, none⟩), .pointer (some ⟨w3.heap.size, 0, none⟩), .func (Fn.func 49) #[] #[.pointer (some ⟨b + 3, 0, none⟩), .pointer (some ⟨b + 4, 0, none⟩)], .agg #[.slice aM lr cM, .slice aC lx cC], .agg #[.slice al lr cl, .slice ak lx ck], .agg #[.slice aa la ca, .int .i64 (L : Int), .slice ac lc cc], .slice ap lp cp, .agg #[.int .u32 inp, .bool en, .int .i64 fu], .pointer (some ⟨b, 1, none⟩), .int .i64 (L : Int), .slice vla L L, .agg #[.slice al lr cl, .slice ak lx ck, .slice aa la ca, .int .i64 (L : Int), .slice ac lc cc, .slice ap lp cp, .int .u32 inp, .bool en, .int .i64 fu, .int .i64 0, .slice none 0 0, .slice none 0 0, .slice vla L L, .slice none 0 0, .int .i64 0], .pointer (some ⟨w3.heap.size, 0, none⟩), undef, undef, undef, undef, undef, undef, undef, undef, undef, undef, undef, undef, undef, undef, undef], defers := [{ target := Target.fn (Fn.func 49) #[.pointer (some ⟨b + 3, 0, none⟩), .pointer (some ⟨b + 4, 0, none⟩)], args := #[] }] } (w3.alloc (.cells #[.slice al lr cl, .slice ak lx ck, .slice aa la ca, .int .i64 (L : Int), .slice ac lc cc, .slice ap lp cp, .int .u32 inp, .bool en, .int .i64 fu, .int .i64 0, .slice none 0 0, .slice none 0 0, .slice vla L L, .slice none 0 0, .int .i64 0] 106))) := by
  intro al ak vla cl ck vs p w3 hR3 hvl hol hdis hX3
  have hXn := (Ext.refl w3).alloc (.cells #[.slice al lr cl, .slice ak lx ck, .slice aa la ca, .int .i64 (L : Int), .slice ac lc cc, .slice ap lp cp, .int .u32 inp, .bool en, .int .i64 fu, .int .i64 0, .slice none 0 0, .slice none 0 0, .slice vla L L, .slice none 0 0, .int .i64 0] 106)
  have hbk := Blk.new w3 [.slice al lr cl, .slice ak lx ck, .slice aa la ca, .int .i64 (L : Int), .slice ac lc cc, .slice ap lp cp, .int .u32 inp, .bool en, .int .i64 fu, .int .i64 0, .slice none 0 0, .slice none 0 0, .slice vla L L, .slice none 0 0, .int .i64 0] 106
  have hsz3 := hX3.out.size
  rw [s5] at hsz3
  have hR4 := hR3.out.chg (Chg.of_ext [] hXn) (by simp)
  have hXX := XW.out.trans (hX3.out.trans hXn)
  have henv : EnvM (w3.alloc (.cells #[.slice al lr cl, .slice ak lx ck, .slice aa la ca, .int .i64 (L : Int), .slice ac lc cc, .slice ap lp cp, .int .u32 inp, .bool en, .int .i64 fu, .int .i64 0, .slice none 0 0, .slice none 0 0, .slice vla L L, .slice none 0 0, .int .i64 0] 106)) (b + 5) ⟨.slice aa la ca, .slice ac lc cc, .slice ap lp cp⟩ E :=
   ⟨Rd.ext raI.out hXX, Rd.ext rcI.out hXX, Rd.ext rpI.out hXX, fun k hn e => by have := Rd.blk_lt raI.out hn e; omega, fun k hn e => by have := Rd.blk_lt rcI.out hn e; omega, fun k hn e => by have := Rd.blk_lt rpI.out hn e; omega⟩
  have hms := mst_new (X := ⟨.slice aa la ca, .slice ac lc cc, .slice ap lp cp⟩) (E := E) (q := w3.heap.size) hR4 (by rw [hvl.out, hlr.out]) (by rw [hL.out, Int.toNat_natCast]; exact own_ext hol.out hXn) hdis.out (by
   show Blk _ _ _ (mcP _ _ _ _)
   unfold mcP startS
   simp only
   rw [hL.out, hinp.out, hen.out, hfu.out]
   exact hbk) hsz3 (fun hm => by have := (hR3.out.lt (List.mem_cons_of_mem _ hm)).2; omega) (fun e => by have := (own_lt hol.out e).2; omega) henv
  have hrun := irun_any _ (b + 5) w3.heap.size _ _ E (startS E ar cx) hms (by have := hXn.size; omega) hS.out hE.out (Int.le_refl _) (by show (0 : Int) ≤ _; omega) N R hR.out
  have b40 := (P4.out.ext (hX3.out.trans hXn))
  have b50 := (P5.out.ext (hX3.out.trans hXn))
  generalize hw4 : w3.alloc (.cells #[.slice al lr cl, .slice ak lx ck, .slice aa la ca, .int .i64 (L : Int), .slice ac lc cc, .slice ap lp cp, .int .u32 inp, .bool en, .int .i64 fu, .int .i64 0, .slice none 0 0, .slice none 0 0, .slice vla L L, .slice none 0 0, .int .i64 0] 106) = w4 at *
  generalize hq : w3.heap.size = q at *
  replace hrun := hidden hrun
  replace b40 := hidden b40
  replace b50 := hidden b50
  have hms' := hidden hms
  have hXXI := hidden hXX
  clear hR4 hbk henv hms hXn hXX hR3 hvl hol hdis hX3 hw4 hq
  rw [← hQQI.out]
  go_wp2_with fail
  refine hrun.out.mono ?_
  clear hrun
  rintro e w5 hP
  unfold RunP at hP
  have habv : ∀ x ∈ SV q ⟨.slice al lr cl, .slice ak lx ck, .slice none 0 0, .slice none 0 0, .slice vla L L, .slice none 0 0, vs⟩, b + 5 ≤ x := fun x hx => (hms'.out.lt hx).1
  cases R with
  | error er =>
   obtain ⟨rfl, hc⟩ := hP
   have q0 := b40.out.chg hc (fun hm => by have := habv _ hm; omega)
   have q1 := b50.out.chg hc (fun hm => by have := habv _ hm; omega)
   have hc2 : Chg [] w w5 := (Chg.of_ext [] hXXI.out).trans hc (fun x hx => Or.inr (by have := habv x hx; omega))
   unfold failI
   go_wp2_with fail
   refine leaves_cons (f := 49) (args := #[.pointer (some ⟨b + 3, 0, none⟩), .pointer (some ⟨b + 4, 0, none⟩)]) (by simp) (by simp [go_sem]) ?_
   refine (irescue_panic (b + 3) (b + 4) er _ _ _ _ 0 w5 q0 q1 (by omega)).mono ?_
   rintro e2 u w6 ⟨rfl, rfl, h1, h2, hc3⟩
   have hX : Ext w w6 := (hc2.trans hc3 (fun x hx => by simp at hx; rw [hb]; omega)).ext
   obtain ⟨g0, g1, g2, g3⟩ := h1.c4
   have k0 := h2.cell 0 _ rfl
   have hfin : ExeP w E (.error er) (.returned (.tuple #[.agg #[.slice none 0 0, .slice none 0 0, .slice none 0 0, .int .i64 0], .int .i64 er])) w6 := ⟨rfl, hX⟩
   simp [Leaves, settle, results, Tryz.f39, go_sem, g0, g1, g2, g3, k0]
   exact hfin
  | ok r =>
   obtain ⟨ar', cx', out', st'⟩ := r
   obtain ⟨rfl, V', s', hm, hsS, rfl, rfl, rfl, rfl, hc⟩ := hP
   have q0 := b40.out.chg hc (fun hm => by have := habv _ hm; omega)
   have q1 := b50.out.chg hc (fun hm => by have := habv _ hm; omega)
   have hc2 : Chg [] w w5 := (Chg.of_ext [] hXXI.out).trans hc (fun x hx => Or.inr (by have := habv x hx; omega))
   obtain ⟨VA, VC, VS, VF, VL, VO, VAR⟩ := V'
   have hO1 : w5.ownsRow (b + 5) 27 1 VA s'.ar.length VAR := hm.rows.own _ (List.mem_of_getElem? (i := 0) rfl)
   have hO2 : w5.ownsRow (b + 5) 42 1 VC s'.cx.length (s'.cx.map (Value.int .u32)) := hm.rows.own (arow VC s'.cx) (List.mem_of_getElem? (i := 1) rfl)
   have hO3 : w5.ownsRow (b + 5) 5 1 VO s'.out.length (s'.out.map (Value.int .u8)) := hm.rows.own _ (List.mem_of_getElem? (i := 5) rfl)
   obtain ⟨a1, c1', rfl, -⟩ := own_shape hO1
   obtain ⟨a2, c2', rfl, -⟩ := own_shape hO2
   obtain ⟨a3, c3', rfl, -⟩ := own_shape hO3
   clear hO1 hO2 hO3
   have hbk : Blk w5 q 106 (mcP ⟨.slice a1 s'.ar.length c1', .slice a2 s'.cx.length c2', VS, VF, VL, .slice a3 s'.out.length c3', VAR⟩ ⟨.slice aa la ca, .slice ac lc cc, .slice ap lp cp⟩ E s') := hm.blk
   obtain ⟨x0, x1⟩ := hbk.c2
   have x13 := hbk.cell 13 _ rfl
   have x14 := hbk.cell 14 _ rfl
   obtain ⟨z0, z1, z2, z3⟩ := q0.c4
   obtain ⟨y0, y1, y2, y3⟩ := q0.fz4
   have z5 := q1.cell 0 _ rfl
   have y5 := q1.frozen 0
   have hqb : b + 5 ≤ q := hm.rows.q0
   have n1 : ¬ b + 3 = q := by omega
   have n2 : ¬ b + 4 = q := by omega
   have hmI := hidden hm
   have hc2I := hidden hc2
   have q0I := hidden q0
   have q1I := hidden q1
   have hsI := hidden hsS
   generalize hn1 : s'.ar.length = k1 at *
   generalize hn2 : s'.cx.length = k2 at *
   generalize hn3 : s'.out.length = k3 at *
   generalize hn4 : s'.steps = k4 at *
   replace hn1 := hidden hn1
   replace hn2 := hidden hn2
   replace hn3 := hidden hn3
   replace hn4 := hidden hn4
   clear hm hc hc2 q0 q1 hbk habv hsS b40 b50 hms' hXXI
   go_upto_region 4 with fail
   refine wp_region_D (S := fun w' => w'.cell? ⟨q, 0, none⟩ = some (.slice a1 k1 c1') ∧ w'.cell? ⟨q, 1, none⟩ = some (.slice a2 k2 c2') ∧ w'.cell? ⟨q, 13, none⟩ = some (.slice a3 k3 c3') ∧ w'.cell? ⟨q, 14, none⟩ = some (.int .i64 k4)) (D := [13, 14]) (by kernel_rfl) ⟨x0, x1, x13, x14⟩ (fun HS => ?_)
   refine tkq 0 [1, 2, 3, 12, 13, 14] (.pointer (some ⟨q, 0, none⟩)) rfl (fun _ _ _ h => exe_put 24 (by decide) (by decide) h) HS ?_; try simp only [sx]
   refine tkq 1 [2, 3, 12, 13, 14] (.pointer (some ⟨q, 0, none⟩)) rfl (fun _ _ _ h => exe_put 25 (by decide) (by decide) h) HS ?_; try simp only [sx]
   refine tkq 2 [3, 12, 13, 14] (.pointer (some ⟨q, 0, none⟩)) rfl (fun _ _ _ h => exe_put 26 (by decide) (by decide) h) HS ?_; try simp only [sx]
   refine tkq 3 [12, 13, 14] (.agg #[.slice a1 k1 c1', .slice a2 k2 c2']) rfl (fun _ _ _ h => exe_put 27 (by decide) (by decide) h) HS ?_; try simp only [sx]
   refine tkq 4 [5, 6, 7, 12, 13, 14] (.pointer (some ⟨q, 0, none⟩)) rfl (fun _ _ _ h => exe_put 28 (by decide) (by decide) h) HS ?_; try simp only [sx]
   refine tkq 5 [6, 7, 12, 13, 14] (.pointer (some ⟨q, 0, none⟩)) rfl (fun _ _ _ h => exe_put 29 (by decide) (by decide) h) HS ?_; try simp only [sx]
   refine tkq 6 [7, 12, 13, 14] (.pointer (some ⟨q, 13, none⟩)) rfl (fun _ _ _ h => exe_put 30 (by decide) (by decide) h) HS ?_; try simp only [sx]
   refine tkq 7 [12, 13, 14] (.slice a3 k3 c3') rfl (fun _ _ _ h => exe_put 31 (by decide) (by decide) h) HS ?_; try simp only [sx]
   refine tkq 8 [9, 10, 11, 12, 13, 14] (.pointer (some ⟨q, 0, none⟩)) rfl (fun _ _ _ h => exe_put 32 (by decide) (by decide) h) HS ?_; try simp only [sx]
   refine tkq 9 [10, 11, 12, 13, 14] (.pointer (some ⟨q, 0, none⟩)) rfl (fun _ _ _ h => exe_put 33 (by decide) (by decide) h) HS ?_; try simp only [sx]
   refine tkq 10 [11, 12, 13, 14] (.pointer (some ⟨q, 14, none⟩)) rfl (fun _ _ _ h => exe_put 34 (by decide) (by decide) h) HS ?_; try simp only [sx]
   refine tkq 11 [12, 13, 14] (.int .i64 k4) rfl (fun _ _ _ h => exe_put 35 (by decide) (by decide) h) HS ?_; try simp only [sx]
   refine tkq 12 [13, 14] (.agg #[.slice a1 k1 c1', .slice a2 k2 c2', .slice a3 k3 c3', .int .i64 k4]) rfl (fun _ _ _ h => exe_put 36 (by decide) (by decide) h) HS ?_; try simp only [sx]
   refine storeD 13 rfl rfl (by kernel_rfl) (by rfl) (w' := (((w5.drew.setCell ⟨b + 3, 0, none⟩ (.slice a1 k1 c1')).setCell ⟨b + 3, 1, none⟩ (.slice a2 k2 c2')).setCell ⟨b + 3, 2, none⟩ (.slice a3 k3 c3')).setCell ⟨b + 3, 3, none⟩ (.int .i64 k4)) (by go_simp) (fun h => absurd (by decide) h) ?_; try simp only [sx]
   refine storeD 14 rfl rfl (by kernel_rfl) (by rfl) (w' := ((((w5.drew.setCell ⟨b + 3, 0, none⟩ (.slice a1 k1 c1')).setCell ⟨b + 3, 1, none⟩ (.slice a2 k2 c2')).setCell ⟨b + 3, 2, none⟩ (.slice a3 k3 c3')).setCell ⟨b + 3, 3, none⟩ (.int .i64 k4)).setCell ⟨b + 4, 0, none⟩ (.int .i64 0)) (by go_simp) (fun h => absurd (by decide) h) ?_
   refine wpAnyD_done (by kernel_rfl) ?_ _
   show _
   go_wp2_with fail
   have h4 : Blk ((((w5.drew.setCell ⟨b + 3, 0, none⟩ (.slice a1 k1 c1')).setCell ⟨b + 3, 1, none⟩ (.slice a2 k2 c2')).setCell ⟨b + 3, 2, none⟩ (.slice a3 k3 c3')).setCell ⟨b + 3, 3, none⟩ (.int .i64 k4)) (b + 3) 48 [.slice a1 k1 c1', .slice a2 k2 c2', .slice a3 k3 c3', .int .i64 k4] :=
    (((q0I.out.drew.set 0 _).set 1 _).set 2 _).set 3 _
   have hcw : Chg [b + 3, b + 4] w5 (((((w5.drew.setCell ⟨b + 3, 0, none⟩ (.slice a1 k1 c1')).setCell ⟨b + 3, 1, none⟩ (.slice a2 k2 c2')).setCell ⟨b + 3, 2, none⟩ (.slice a3 k3 c3')).setCell ⟨b + 3, 3, none⟩ (.int .i64 k4)).setCell ⟨b + 4, 0, none⟩ (.int .i64 0)) :=
    ((((((Chg.refl _ w5).drew).setCell (p := ⟨b + 3, 0, none⟩) (Or.inl (by simp)) _).setCell (p := ⟨b + 3, 1, none⟩) (Or.inl (by simp)) _).setCell (p := ⟨b + 3, 2, none⟩) (Or.inl (by simp)) _).setCell (p := ⟨b + 3, 3, none⟩) (Or.inl (by simp)) _).setCell (p := ⟨b + 4, 0, none⟩) (Or.inl (by simp)) _
   have h5 := (q1I.out.drew.set_other (c := b + 3) (i := 0) (by omega) (.slice a1 k1 c1')).set_other (c := b + 3) (i := 1) (by omega) (.slice a2 k2 c2')
   have h6 := ((h5.set_other (c := b + 3) (i := 2) (by omega) (.slice a3 k3 c3')).set_other (c := b + 3) (i := 3) (by omega) (.int .i64 k4)).set 0 (.int .i64 0)
   have h7 := h4.set_other (c := b + 4) (i := 0) (by omega) (.int .i64 0)
   obtain ⟨w6, hw6⟩ := ex (((((w5.drew.setCell ⟨b + 3, 0, none⟩ (.slice a1 k1 c1')).setCell ⟨b + 3, 1, none⟩ (.slice a2 k2 c2')).setCell ⟨b + 3, 2, none⟩ (.slice a3 k3 c3')).setCell ⟨b + 3, 3, none⟩ (.int .i64 k4)).setCell ⟨b + 4, 0, none⟩ (.int .i64 0))
   rw [hw6] at hcw h6 h7 ⊢
   have hfin : ExeP w E (.ok (s'.ar, s'.cx, s'.out, k4)) (.returned (.tuple #[.agg #[.slice a1 k1 c1', .slice a2 k2 c2', .slice a3 k3 c3', .int .i64 k4], .int .i64 0])) w6 := by
    have hmr := hmI.out.rows.chg hcw (fun x hx hm => by
     have h1 := (hmI.out.rows.lt (List.mem_cons_of_mem _ hm)).1
     simp at hx
     omega)
    obtain ⟨hm1, hm2⟩ := rows_mem hmr
    exact ⟨_, _, _, s', rfl, hm1.base (by omega), own_mono hm2 (by omega), hsI.out, rfl, rfl, rfl, hn4.out, (hc2I.out.trans hcw (fun x hx => by simp at hx; rw [hb]; omega)).ext⟩
   clear h4 h5 hw6 x0 x1 x13 x14 z0 z1 z2 z3 z5 y0 y1 y2 y3 y5
   refine leaves_cons (f := 49) (args := #[.pointer (some ⟨b + 3, 0, none⟩), .pointer (some ⟨b + 4, 0, none⟩)]) (by simp) (by simp [go_sem]) ?_
   refine (irescue_idle ⟨b + 3, 0, none⟩ ⟨b + 4, 0, none⟩ w6).mono ?_
   rintro e2 u w7 ⟨rfl, rfl, rfl⟩
   obtain ⟨g0, g1, g2, g3⟩ := h7.c4
   have k0 := h6.cell 0 _ rfl
   simp [Leaves, settle, results, Tryz.f39, go_sem, g0, g1, g2, g3, k0]
   exact hfin
 refine wp_region_D (S := fun w' => w'.cell? ⟨b, 0, none⟩ = some (.slice aa la ca) ∧ w'.cell? ⟨b, 1, none⟩ = some (.int .i64 (L : Int)) ∧ w'.cell? ⟨b, 2, none⟩ = some (.slice ac lc cc) ∧ w'.cell? ⟨b + 1, 0, none⟩ = some (.slice aM lr cM) ∧ w'.cell? ⟨b + 1, 1, none⟩ = some (.slice aC lx cC) ∧ w'.cell? ⟨b + 2, 0, none⟩ = some (.int .u32 inp) ∧ w'.cell? ⟨b + 2, 1, none⟩ = some (.bool en) ∧ w'.cell? ⟨b + 2, 2, none⟩ = some (.int .i64 fu)) (D := [9, 10]) (by kernel_rfl) ⟨p0, p1, p2, m0, m1, c0, c1, c2⟩ (fun HS => ?_)
 refine tkq 0 [1, 8, 9, 10] (.agg #[.slice aM lr cM, .slice aC lx cC]) rfl (fun _ _ _ h => hQ 12 (by decide) (by decide) h) HS ?_; try simp only [sx]
 refine tkq 2 [8, 9, 10] (.agg #[.slice aa la ca, .int .i64 (L : Int), .slice ac lc cc]) rfl (fun _ _ _ h => hQ 14 (by decide) (by decide) h) HS ?_; try simp only [sx]
 refine tkq 3 [8, 9, 10] (.slice ap lp cp) rfl (fun _ _ _ h => hQ 15 (by decide) (by decide) h) HS ?_; try simp only [sx]
 refine tkq 4 [8, 9, 10] (.agg #[.int .u32 inp, .bool en, .int .i64 fu]) rfl (fun _ _ _ h => hQ 16 (by decide) (by decide) h) HS ?_; try simp only [sx]
 refine tkq 5 [6, 7, 8, 9, 10] (.pointer (some ⟨b, 1, none⟩)) rfl (fun _ _ _ h => hQ 17 (by decide) (by decide) h) HS ?_; try simp only [sx]
 refine tkq 6 [7, 8, 9, 10] (.int .i64 (L : Int)) rfl (fun _ _ _ h => hQ 18 (by decide) (by decide) h) HS ?_; try simp only [sx]
 refine wpAnyD_all (rs := [1, 7]) (by kernel_rfl) (by simp) ?_
 intro i hi
 rcases List.mem_cons.1 hi with rfl | hi
 ·refine wpOp_callV 1 50 #[.agg #[.slice aM lr cM, .slice aC lx cC]] rfl rfl (by rfl) (by go_simp) (hcop.out W5.drew (Ext.refl W5).drew) ?_
  rintro x w2 ⟨va', vc', vs, p, rfl, hvl, hR2, hX2⟩
  have hO1 : w2.ownsRow W5.drew.heap.size 27 1 va' ar.length vs := hR2.own _ (List.mem_of_getElem? (i := 0) rfl)
  have hO2 : w2.ownsRow W5.drew.heap.size 42 1 vc' cx.length (cx.map (Value.int .u32)) := hR2.own (arow vc' cx) (List.mem_of_getElem? (i := 1) rfl)
  rw [hlr.out] at hO1
  rw [hlx.out] at hO2
  obtain ⟨al, cl, rfl, -⟩ := own_shape hO1
  obtain ⟨ak, ck, rfl, -⟩ := own_shape hO2
  clear hO1 hO2
  have X2 := (Ext.refl W5).drew.trans hX2
  replace HS := (And.intro (hX2.cell HS.1) (And.intro (hX2.cell HS.2.1) (And.intro (hX2.cell HS.2.2.1) (And.intro (hX2.cell HS.2.2.2.1) (And.intro (hX2.cell HS.2.2.2.2.1) (And.intro (hX2.cell HS.2.2.2.2.2.1) (And.intro (hX2.cell HS.2.2.2.2.2.2.1) (hX2.cell HS.2.2.2.2.2.2.2))))))))
  refine ⟨_, rfl, fun _ => HS, ?_⟩; try simp only [sx]
  have hmk := make32 w2 L (by omega)
  have hX3 := (Ext.refl w2).alloc (.cells (madeCells #[.int .u32 0] L) 42)
  replace HS := (And.intro (hX3.cell HS.1) (And.intro (hX3.cell HS.2.1) (And.intro (hX3.cell HS.2.2.1) (And.intro (hX3.cell HS.2.2.2.1) (And.intro (hX3.cell HS.2.2.2.2.1) (And.intro (hX3.cell HS.2.2.2.2.2.1) (And.intro (hX3.cell HS.2.2.2.2.2.2.1) (hX3.cell HS.2.2.2.2.2.2.2))))))))
  refine valueD 7 (.slice (some ⟨w2.heap.size, 0, none⟩) L L) rfl rfl (by kernel_rfl) (by rfl) (w' := w2.alloc (.cells (madeCells #[.int .u32 0] L) 42)) (by go_simp) (fun _ => HS) ?_; try simp only [sx]
  have hol := hidden (show (arow (.slice (some ⟨w2.heap.size, 0, none⟩) L L) (List.replicate L 0)).own (w2.alloc (.cells (madeCells #[.int .u32 0] L) 42)) (b + 5) by
   have := made_own W5 w2 X2 L (by omega)
   rw [s5] at this
   exact this)
  have hdis := hidden (show ∀ x, (Value.slice (some ⟨w2.heap.size, 0, none⟩) L L).ownBlock = some x → x ∉ blks (memRows (.slice al lr cl) (.slice ak lx ck) vs ar cx) by
   intro x hx hm
   have := (hR2.lt (List.mem_cons_of_mem _ hm)).2
   simp only [Value.ownBlock, Option.some.injEq] at hx
   omega)
  have hR3 := hidden ((hR2.base (show b + 5 ≤ W5.drew.heap.size by rw [← s5]; exact Nat.le_refl _)).chg (Chg.of_ext [] hX3) (by simp))
  have hX4 := hidden (X2.trans hX3)
  have hvl' := hidden (show vs.length = lr by rw [hvl, hlr.out])
  clear hmk hvl hR2 hX2 X2 hX3
  generalize (some ⟨w2.heap.size, 0, none⟩ : Option Addr) = vla at *
  generalize (w2.alloc (.cells (madeCells #[.int .u32 0] L) 42)) = w3 at *
  refine valueD 8 (.agg #[.slice al lr cl, .slice ak lx ck, .slice aa la ca, .int .i64 (L : Int), .slice ac lc cc, .slice ap lp cp, .int .u32 inp, .bool en, .int .i64 fu, .int .i64 0, .slice none 0 0, .slice none 0 0, .slice vla L L, .slice none 0 0, .int .i64 0]) rfl rfl (by kernel_rfl) (by rfl) (w' := w3) (by go_simp) (fun _ => HS) ?_; try simp only [sx]
  refine valueD 9 (.pointer (some ⟨w3.heap.size, 0, none⟩)) rfl rfl (by kernel_rfl) (by rfl) (w' := w3.alloc (.cells #[.slice al lr cl, .slice ak lx ck, .slice aa la ca, .int .i64 (L : Int), .slice ac lc cc, .slice ap lp cp, .int .u32 inp, .bool en, .int .i64 fu, .int .i64 0, .slice none 0 0, .slice none 0 0, .slice vla L L, .slice none 0 0, .int .i64 0] 106)) (by go_simp) (fun h => absurd (by decide) h) ?_; try simp only [sx]
  refine valueD 10 (.pointer (some ⟨w3.heap.size, 0, none⟩)) rfl rfl (by kernel_rfl) (by rfl) (w' := w3.alloc (.cells #[.slice al lr cl, .slice ak lx ck, .slice aa la ca, .int .i64 (L : Int), .slice ac lc cc, .slice ap lp cp, .int .u32 inp, .bool en, .int .i64 fu, .int .i64 0, .slice none 0 0, .slice none 0 0, .slice vla L L, .slice none 0 0, .int .i64 0] 106)) (by go_simp) (fun h => absurd (by decide) h) ?_; try simp only [sx]
  refine wpAnyD_done (by kernel_rfl) ?_ _
  exact fin.out al ak vla cl ck vs p w3 hR3 hvl' hol hdis hX4
 ·obtain rfl : i = 7 := by simpa using hi
  have hmk := make32 W5.drew L (by omega)
  have hX3 := (Ext.refl W5).drew.alloc (.cells (madeCells #[.int .u32 0] L) 42)
  replace HS := (And.intro (hX3.cell HS.1) (And.intro (hX3.cell HS.2.1) (And.intro (hX3.cell HS.2.2.1) (And.intro (hX3.cell HS.2.2.2.1) (And.intro (hX3.cell HS.2.2.2.2.1) (And.intro (hX3.cell HS.2.2.2.2.2.1) (And.intro (hX3.cell HS.2.2.2.2.2.2.1) (hX3.cell HS.2.2.2.2.2.2.2))))))))
  refine wpOp_valueV 7 (.slice (some ⟨W5.heap.size, 0, none⟩) L L) rfl rfl (by rfl) (w' := W5.drew.alloc (.cells (madeCells #[.int .u32 0] L) 42)) (by go_simp) ⟨fun _ => HS, ?_⟩; try simp only [sx]
  have hol0 : (arow (.slice (some ⟨W5.heap.size, 0, none⟩) L L) (List.replicate L 0)).own (W5.drew.alloc (.cells (madeCells #[.int .u32 0] L) 42)) (b + 5) := by
   have := made_own W5 W5.drew (Ext.refl W5).drew L (by omega)
   rw [s5] at this
   rw [show W5.heap.size = W5.drew.heap.size from rfl]
   exact this
  have hszA : (W5.drew.alloc (.cells (madeCells #[.int .u32 0] L) 42)).heap.size = b + 6 := by
   show (W5.drew.heap.push _).size = _
   rw [Array.size_push]
   show W5.heap.size + 1 = _
   rw [s5]
  clear hmk
  rw [s5] at hol0
  rw [s5]
  generalize (W5.drew.alloc (.cells (madeCells #[.int .u32 0] L) 42)) = w2 at *
  refine callVD 1 50 #[.agg #[.slice aM lr cM, .slice aC lx cC]] rfl rfl (by kernel_rfl) (by rfl) (by go_simp) (hcop.out w2 hX3) ?_
  rintro x w3 ⟨va', vc', vs, p, rfl, hvl, hR2, hX2⟩
  have hO1 : w3.ownsRow w2.heap.size 27 1 va' ar.length vs := hR2.own _ (List.mem_of_getElem? (i := 0) rfl)
  have hO2 : w3.ownsRow w2.heap.size 42 1 vc' cx.length (cx.map (Value.int .u32)) := hR2.own (arow vc' cx) (List.mem_of_getElem? (i := 1) rfl)
  rw [hlr.out] at hO1
  rw [hlx.out] at hO2
  obtain ⟨al, cl, rfl, -⟩ := own_shape hO1
  obtain ⟨ak, ck, rfl, -⟩ := own_shape hO2
  clear hO1 hO2
  replace HS := (And.intro (hX2.cell HS.1) (And.intro (hX2.cell HS.2.1) (And.intro (hX2.cell HS.2.2.1) (And.intro (hX2.cell HS.2.2.2.1) (And.intro (hX2.cell HS.2.2.2.2.1) (And.intro (hX2.cell HS.2.2.2.2.2.1) (And.intro (hX2.cell HS.2.2.2.2.2.2.1) (hX2.cell HS.2.2.2.2.2.2.2))))))))
  refine Or.inl ⟨_, rfl, fun _ => HS, ?_⟩; try simp only [sx]
  have hol := hidden (own_ext hol0 hX2)
  have hdis := hidden (show ∀ x, (Value.slice (some ⟨b + 5, 0, none⟩) L L).ownBlock = some x → x ∉ blks (memRows (.slice al lr cl) (.slice ak lx ck) vs ar cx) by
   intro x hx hm
   have := (hR2.lt (List.mem_cons_of_mem _ hm)).1
   simp only [Value.ownBlock, Option.some.injEq] at hx
   omega)
  have hR3 := hidden (hR2.base (show b + 5 ≤ w2.heap.size by omega))
  have hX4 := hidden (hX3.trans hX2)
  have hvl' := hidden (show vs.length = lr by rw [hvl, hlr.out])
  clear hvl hR2 hX2 hX3 hol0 hszA
  generalize (some ⟨b + 5, 0, none⟩ : Option Addr) = vla at *
  refine valueD 8 (.agg #[.slice al lr cl, .slice ak lx ck, .slice aa la ca, .int .i64 (L : Int), .slice ac lc cc, .slice ap lp cp, .int .u32 inp, .bool en, .int .i64 fu, .int .i64 0, .slice none 0 0, .slice none 0 0, .slice vla L L, .slice none 0 0, .int .i64 0]) rfl rfl (by kernel_rfl) (by rfl) (w' := w3) (by go_simp) (fun _ => HS) ?_; try simp only [sx]
  refine valueD 9 (.pointer (some ⟨w3.heap.size, 0, none⟩)) rfl rfl (by kernel_rfl) (by rfl) (w' := w3.alloc (.cells #[.slice al lr cl, .slice ak lx ck, .slice aa la ca, .int .i64 (L : Int), .slice ac lc cc, .slice ap lp cp, .int .u32 inp, .bool en, .int .i64 fu, .int .i64 0, .slice none 0 0, .slice none 0 0, .slice vla L L, .slice none 0 0, .int .i64 0] 106)) (by go_simp) (fun h => absurd (by decide) h) ?_; try simp only [sx]
  refine valueD 10 (.pointer (some ⟨w3.heap.size, 0, none⟩)) rfl rfl (by kernel_rfl) (by rfl) (w' := w3.alloc (.cells #[.slice al lr cl, .slice ak lx ck, .slice aa la ca, .int .i64 (L : Int), .slice ac lc cc, .slice ap lp cp, .int .u32 inp, .bool en, .int .i64 fu, .int .i64 0, .slice none 0 0, .slice none 0 0, .slice vla L L, .slice none 0 0, .int .i64 0] 106)) (by go_simp) (fun h => absurd (by decide) h) ?_; try simp only [sx]
  refine wpAnyD_done (by kernel_rfl) ?_ _
  exact fin.out al ak vla cl ck vs p w3 hR3 hvl' hol hdis hX4
def envOf (A : List (Bool × Int)) (L : Int) (C : List (Int × Int)) (inp : Int) (en : Bool) (fu : Int) : Env := { A := A, L := L, C := C, P := usP A L C, inp := inp, ended := en, fuel := fu }
def runR (A : List (Bool × Int)) (L : Int) (C : List (Int × Int)) (ar : List (List Int)) (cx : List Int) (inp : Int) (en : Bool) (fu : Int) : Out :=
 if usE A L C ≠ 0 then .error (usE A L C) else if chkM A L C ar cx ≠ 0 then .error (chkM A L C ar cx) else if 0 ≤ fu ∧ fu ≤ 281474976710656 then runF (envOf A L C inp en fu) (startS (envOf A L C inp en fu) ar cx) else .error 2
theorem usE_ok {A : List (Bool × Int)} {L : Int} {C : List (Int × Int)} (h : usE A L C = 0) : formE A L C = 0 ∧ ∃ S : Sy, C = S.cod ∧ S.wf false ∧ S.dep ≤ 8 ∧ usP A L C = S.prt true 0 (-1) := by
 have hf : formE A L C = 0 := by
  unfold usE at h
  by_cases h0 : formE A L C = 0
  ·exact h0
  ·rw [if_pos h0] at h; exact absurd h h0
 refine ⟨hf, ?_⟩
 unfold usE at h
 rw [if_neg (by simpa using hf)] at h
 have hl := (formE_ok hf).2.2.2.1
 unfold pairR at h
 rw [if_pos hl] at h
 rcases whole_law C with ⟨S, h1, h2, h3, -⟩ | ⟨e, he, -⟩
 ·refine ⟨S, h1, h2, h3, ?_⟩
  unfold usP pairR
  rw [if_neg (by simpa using hf), if_pos hl, h1, whole_of S h2 h3]
 ·rw [he] at h; cases h
theorem chkI_ok {op arg : Int} (h : chkI op arg = 0) : 0 ≤ op ∧ op < 36 ∧ (op = 35 → arg < 16) := by
 unfold chkI at h
 cases hi : isOp op with
 | false => rw [if_pos hi] at h; cases h
 | true =>
  rw [if_neg (by rw [hi]; decide)] at h
  have hi' : 0 ≤ op ∧ op < 36 := by unfold isOp at hi; simpa using hi
  refine ⟨hi'.1, hi'.2, fun e => ?_⟩
  subst e
  by_cases hc : (opAt 35).2.2.2.1 ≤ arg
  ·rw [if_pos hc] at h; cases h
  ·have : (opAt 35).2.2.2.1 = 16 := by decide
   omega
theorem fits_len {A : List (Bool × Int)} {ar : List (List Int)} {cx : List Int} (h : fitsF A ar cx = true) : ar.length = A.length ∧ cx.length = 16 ∧ ∀ (k : Nat) (x : Bool × Int) (a : List Int), A[k]? = some x → ar[k]? = some a → fit1 (x, a) = true := by
 unfold fitsF at h
 simp only [Bool.and_eq_true, decide_eq_true_eq] at h
 refine ⟨h.1.1, h.1.2, fun k x a hx ha => ?_⟩
 exact List.all_eq_true.1 h.2 _ (List.mem_of_getElem? (zip_get A ar k x a hx ha))
theorem ready_of {A : List (Bool × Int)} {L : Int} {C : List (Int × Int)} {ar : List (List Int)} {cx : List Int} {inp : Int} {en : Bool} {fu : Int} (hC : OkI C) (h : usE A L C = 0) (hf : fitsF A ar cx = true) (hi : U32 inp) (hfu : fu ≤ 281474976710656)
  (hau : ∀ a ∈ ar, ∀ x ∈ a, U32 x) (hcu : ∀ x ∈ cx, U32 x) :
  OkE (envOf A L C inp en fu) ∧ OkS (envOf A L C inp en fu) (startS (envOf A L C inp en fu) ar cx) ∧ Good (envOf A L C inp en fu) (startS (envOf A L C inp en fu) ar cx) := by
 obtain ⟨hfm, S, s1, s2, s3, s4⟩ := usE_ok h
 obtain ⟨f1, f2, ⟨f3, f4⟩, f5, f6⟩ := formE_ok hfm
 obtain ⟨l1, l2, l3⟩ := fits_len hf
 have hE : OkE (envOf A L C inp en fu) := by
  refine ⟨f3, f4, f1, f5, ?_, ?_, hi, hfu⟩
  ·show (usP A L C).length = C.length
   rw [s4, s1, Sy.len_prt, Sy.len_cod]
  ·intro x hx
   obtain ⟨c1, c2, c3⟩ := chkI_ok (codE_ok C f6 x hx)
   exact ⟨c1, c2, (hC x hx).2, c3⟩
 refine ⟨hE, oks_start hE ar cx l1 ?_ l2 hcu, good_start _ S s1 s2 s3 s4 _ rfl rfl⟩
 intro a ha
 obtain ⟨k, hk, e⟩ := List.getElem_of_mem ha
 have hak : ar[k]? = some a := by rw [List.getElem?_eq_getElem hk, e]
 obtain ⟨x, hx⟩ : ∃ x, A[k]? = some x := ⟨_, List.getElem?_eq_getElem (by rw [← l1]; exact hk)⟩
 have h1 := l3 k x a hx hak
 unfold fit1 at h1
 simp only [Bool.and_eq_true, decide_eq_true_eq] at h1
 have h2 := f2 x (List.mem_of_getElem? hx)
 exact ⟨by omega, hau a ha⟩
theorem ready_run {A : List (Bool × Int)} {L : Int} {C : List (Int × Int)} {ar : List (List Int)} {cx : List Int} {inp : Int} {en : Bool} {fu : Int} (hC : OkI C) (h : usE A L C = 0) (hf : fitsF A ar cx = true) (hi : U32 inp) (hfu : fu ≤ 281474976710656)
  (hau : ∀ a ∈ ar, ∀ x ∈ a, U32 x) (hcu : ∀ x ∈ cx, U32 x) : ∃ n, runN (envOf A L C inp en fu) n (startS (envOf A L C inp en fu) ar cx) = some (runF (envOf A L C inp en fu) (startS (envOf A L C inp en fu) ar cx)) := by
 obtain ⟨h1, h2, h3⟩ := ready_of (en := en) hC h hf hi hfu hau hcu
 exact runF_run h1 h2 h3
theorem chkM0 {A : List (Bool × Int)} {L : Int} {C : List (Int × Int)} {ar : List (List Int)} {cx : List Int} (h : chkM A L C ar cx = 0) : fitsF A ar cx = true := by
 unfold chkM at h
 by_cases h0 : formE A L C = 0
 ·rw [if_pos h0] at h
  cases hf : fitsF A ar cx with
  | true => rfl
  | false => rw [hf] at h; cases h
 ·rw [if_neg h0] at h; exact absurd h h0
theorem zip_split {α β : Type} : ∀ (l : List α) (m : List β) (k : Nat) (z : α × β), (l.zip m)[k]? = some z → l[k]? = some z.1 ∧ m[k]? = some z.2
 | [], _, _, _, h => by simp at h
 | _ :: _, [], _, _, h => by simp at h
 | a :: l, b :: m, 0, z, h => by simp at h; subst h; exact ⟨rfl, rfl⟩
 | a :: l, b :: m, k + 1, z, h => by simp only [List.zip_cons_cons, List.getElem?_cons_succ] at h ⊢; exact zip_split l m k z h
theorem fits_of {A : List (Bool × Int)} {ar : List (List Int)} {cx : List Int} (h1 : ar.length = A.length) (h2 : cx.length = 16) (h3 : ∀ (k : Nat) (x : Bool × Int) (a : List Int), A[k]? = some x → ar[k]? = some a → fit1 (x, a) = true) : fitsF A ar cx = true := by
 unfold fitsF
 simp only [Bool.and_eq_true, decide_eq_true_eq]
 refine ⟨⟨h1, h2⟩, List.all_eq_true.2 fun z hz => ?_⟩
 obtain ⟨k, hk, e⟩ := List.getElem_of_mem hz
 obtain ⟨e1, e2⟩ := zip_split A ar k z (by rw [List.getElem?_eq_getElem hk, e])
 exact h3 k z.1 z.2 e1 e2
theorem big_set {a : List Int} {i : Nat} {y : Int} (h : bigA a = false) (hy : y ≤ 255) : bigA (a.set i y) = false := by
 unfold bigA at h ⊢
 rw [List.any_eq_false] at h ⊢
 intro x hx
 rcases List.mem_or_eq_of_mem_set hx with h1 | h1
 ·exact h x h1
 ·subst h1; simp; omega
def Inv (E : Env) (s : MS) (r : Rs) : Prop := ∀ s', r = .go s' → (s'.steps = s.steps ∨ s'.steps ≤ E.fuel) ∧ (fitsF E.A s.ar s.cx = true → fitsF E.A s'.ar s'.cx = true)
theorem Inv.stuck (E : Env) (s : MS) : Inv E s .stuck := fun _ h => by cases h
theorem Inv.err (E : Env) (s : MS) (e : Int) : Inv E s (.err e) := fun _ h => by cases h
theorem Inv.go {E : Env} {s s' : MS} (h1 : s'.steps = s.steps) (h2 : s'.ar = s.ar) (h3 : s'.cx = s.cx) : Inv E s (.go s') := fun _ e => by cases e; exact ⟨Or.inl h1, fun h => by rw [h2, h3]; exact h⟩
theorem Inv.push (E : Env) (s : MS) (l : List Vl) : Inv E s (pushF l s) := by
 unfold pushF
 exact ite_both (Inv E s) (fun _ => Inv.err _ _ _) (fun _ => Inv.go rfl rfl rfl)
theorem Inv.tick {E : Env} {s s1 : MS} (h2 : s1.ar = s.ar) (h3 : s1.cx = s.cx) : Inv E s (tickF E s1) := by
 unfold tickF
 refine ite_both (Inv E s) (fun hc => ?_) (fun _ => Inv.err _ _ _)
 intro s' e
 cases e
 exact ⟨Or.inr (by show s1.steps + 1 ≤ _; omega), fun h => by show fitsF E.A s1.ar s1.cx = true; rw [h2, h3]; exact h⟩
theorem inv_put (E : Env) (s : MS) (arg i x : Int) : Inv E s (putF E arg i x s) := by
 unfold putF
 refine ite_both (Inv E s) (fun _ => Inv.err _ _ _) (fun hc => ?_)
 intro s' e
 cases e
 refine ⟨Or.inl rfl, fun h => ?_⟩
 obtain ⟨l1, l2, l3⟩ := fits_len h
 refine fits_of (by rw [List.length_set]; exact l1) l2 fun k z a hz ha => ?_
 rw [List.getElem?_set] at ha
 by_cases hk : arg.toNat = k
 ·subst hk
  rw [if_pos rfl] at ha
  by_cases hl : arg.toNat < s.ar.length
  ·rw [if_pos hl] at ha
   obtain rfl := Option.some.inj ha
   obtain ⟨b, hb⟩ : ∃ b, s.ar[arg.toNat]? = some b := ⟨_, List.getElem?_eq_getElem hl⟩
   have hg : s.ar.getD arg.toNat [] = b := by rw [List.getD_eq_getElem?_getD, hb]; rfl
   have h1 := l3 _ z b hz hb
   have hA : E.A.getD arg.toNat (false, 0) = z := by rw [List.getD_eq_getElem?_getD, hz]; rfl
   rw [hg, hA]
   unfold fit1 at h1 ⊢
   simp only [Bool.and_eq_true, decide_eq_true_eq, List.length_set] at h1 ⊢
   refine ⟨h1.1, ?_⟩
   cases hw : z.1 with
   | true => rfl
   | false =>
    rw [hw] at h1
    simp only [Bool.false_or, Bool.not_eq_true', Bool.false_eq_true, if_false] at h1 ⊢
    exact big_set h1.2 (by omega)
  ·rw [if_neg hl] at ha; cases ha
 ·rw [if_neg hk] at ha
  exact l3 k z a hz ha
theorem inv_exe {E : Env} {op arg : Int} {l : List Vl} {s : MS} : Inv E s (exeF E op arg l s) := by
 unfold exeF
 refine ite_both (Inv E s) (fun _ => Inv.push _ _ _) (fun _ => ?_)
 refine ite_both (Inv E s) (fun _ => Inv.push _ _ _) (fun _ => ?_)
 refine ite_both (Inv E s) (fun _ => Inv.go rfl rfl rfl) (fun _ => ?_)
 refine ite_both (Inv E s) (fun _ => ?_) (fun _ => ?_)
 ·unfold getF
  exact ite_both (Inv E s) (fun _ => Inv.err _ _ _) (fun _ => Inv.push _ _ _)
 refine ite_both (Inv E s) (fun _ => inv_put _ _ _ _ _) (fun _ => ?_)
 refine ite_both (Inv E s) (fun _ => Inv.push _ _ _) (fun _ => ?_)
 refine ite_both (Inv E s) (fun _ => Inv.go rfl rfl rfl) (fun _ => ?_)
 refine ite_both (Inv E s) (fun _ => Inv.push _ _ _) (fun _ => ?_)
 refine ite_both (Inv E s) (fun _ => ?_) (fun _ => ?_)
 ·unfold chooseF
  refine ite_both (Inv E s) (fun _ => Inv.stuck _ _) (fun _ => ite_both (Inv E s) (fun _ => Inv.go rfl rfl rfl) (fun _ => ?_))
  split
  ·exact Inv.stuck _ _
  ·exact ite_both (Inv E s) (fun _ => Inv.go rfl rfl rfl) (fun _ => ite_both (Inv E s) (fun _ => Inv.go rfl rfl rfl) (fun _ => Inv.stuck _ _))
 refine ite_both (Inv E s) (fun _ => ?_) (fun _ => ?_)
 ·unfold otherF
  split
  ·exact Inv.stuck _ _
  ·refine ite_both (Inv E s) (fun _ => Inv.err _ _ _) (fun _ => ?_)
   split
   ·exact Inv.stuck _ _
   ·exact ite_both (Inv E s) (fun _ => Inv.go rfl rfl rfl) (fun _ => Inv.stuck _ _)
 refine ite_both (Inv E s) (fun _ => ?_) (fun _ => ?_)
 ·unfold loopF
  refine ite_both (Inv E s) (fun _ => Inv.err _ _ _) (fun _ => ite_both (Inv E s) (fun _ => ?_) (fun _ => ite_both (Inv E s) (fun _ => Inv.stuck _ _) (fun _ => Inv.tick rfl rfl)))
  split
  ·exact Inv.stuck _ _
  ·exact Inv.go rfl rfl rfl
 refine ite_both (Inv E s) (fun _ => ?_) (fun _ => ?_)
 ·unfold leaveF
  split
  ·exact Inv.stuck _ _
  ·refine ite_both (Inv E s) (fun _ => Inv.err _ _ _) (fun _ => ite_both (Inv E s) (fun _ => Inv.go rfl rfl rfl) (fun _ => ?_))
   split
   ·exact Inv.stuck _ _
   ·exact Inv.go rfl rfl rfl
 refine ite_both (Inv E s) (fun _ => ?_) (fun _ => ?_)
 ·unfold endF
  split
  ·exact Inv.stuck _ _
  ·refine ite_both (Inv E s) (fun _ => Inv.err _ _ _) (fun _ => ite_both (Inv E s) (fun _ => Inv.tick rfl rfl) (fun _ => Inv.go rfl rfl rfl))
 refine ite_both (Inv E s) (fun _ => Inv.push _ _ _) (fun _ => ?_)
 refine ite_both (Inv E s) (fun _ => Inv.push _ _ _) (fun _ => ?_)
 refine ite_both (Inv E s) (fun _ => ?_) (fun _ => ?_)
 ·unfold emitF
  exact ite_both (Inv E s) (fun _ => Inv.go rfl rfl rfl) (fun _ => Inv.err _ _ _)
 refine ite_both (Inv E s) (fun _ => ?_) (fun _ => ?_)
 ·intro s' e
  cases e
  refine ⟨Or.inl rfl, fun h => ?_⟩
  obtain ⟨l1, l2, l3⟩ := fits_len h
  exact fits_of l1 (by rw [List.length_set]; exact l2) l3
 unfold calcF
 exact ite_both (Inv E s) (fun _ => Inv.err _ _ _) (fun _ => Inv.push _ _ _)
theorem inv_step {E : Env} {s s' : MS} (h : stepF E s = .go s') (hs : s.steps ≤ E.fuel) (hf : fitsF E.A s.ar s.cx = true) : s'.steps ≤ E.fuel ∧ fitsF E.A s'.ar s'.cx = true := by
 unfold stepF at h
 by_cases h1 : ¬ (opS E s = 28 ∨ opS E s = 31) ∧ ¬ s.steps < E.fuel
 ·rw [if_pos h1] at h; cases h
 ·rw [if_neg h1] at h
  by_cases h2 : exiF E (opS E s) (argS E s) = false
  ·rw [if_pos h2] at h; cases h
  ·rw [if_neg h2] at h
   cases hp : popF (opAt (opS E s)).2.1.data.toList s.st (baseF s.fr) with
   | error e => rw [hp] at h; cases h
   | ok lr =>
    obtain ⟨l, r⟩ := lr
    rw [hp] at h
    simp only at h
    have hs1 : (s1F E s r).steps ≤ E.fuel := by
     unfold s1F
     simp only
     split
     ·exact hs
     next hno => have : s.steps < E.fuel := by
                   apply Decidable.byContradiction
                   intro hc
                   exact h1 ⟨hno, hc⟩
                 omega
    cases hx : exeF E (opS E s) (argS E s) l (s1F E s r) with
    | stuck => rw [hx] at h; cases h
    | err e => rw [hx] at h; cases h
    | go t =>
     rw [hx] at h
     unfold nextF at h
     cases h
     obtain ⟨i1, i2⟩ := inv_exe t hx
     refine ⟨?_, i2 hf⟩
     show t.steps ≤ E.fuel
     rcases i1 with e | e
     ·omega
     ·exact e
theorem inv_run {E : Env} : ∀ (n : Nat) (s : MS) (ar : List (List Int)) (cx out : List Int) (st : Int), runN E n s = some (.ok (ar, cx, out, st)) → s.steps ≤ E.fuel → fitsF E.A s.ar s.cx = true → st ≤ E.fuel ∧ fitsF E.A ar cx = true
 | 0, s, ar, cx, out, st, h, _, _ => by cases h
 | n + 1, s, ar, cx, out, st, h, hs, hf => by
  unfold runN at h
  by_cases h1 : (E.C.length : Int) ≤ s.pc
  ·rw [if_pos h1] at h
   by_cases h2 : s.st = []
   ·rw [if_pos h2] at h
    simp only [Option.some.injEq, Except.ok.injEq, Prod.mk.injEq] at h
    obtain ⟨rfl, rfl, rfl, rfl⟩ := h
    exact ⟨hs, hf⟩
   ·rw [if_neg h2] at h
    simp at h
  ·rw [if_neg h1] at h
   cases hx : stepF E s with
   | stuck => rw [hx] at h; cases h
   | err e => rw [hx] at h; simp at h
   | go t =>
    rw [hx] at h
    obtain ⟨i1, i2⟩ := inv_step hx hs hf
    exact inv_run n t ar cx out st h i1 i2
end Go.Proofs.YtgjjklajipekdaaGreat
