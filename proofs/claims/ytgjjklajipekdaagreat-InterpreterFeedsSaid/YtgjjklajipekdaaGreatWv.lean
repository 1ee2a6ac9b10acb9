
import Derived.Test.YtgjjklajipekdaaGreatVg
import Derived.Deep.LoopGhost
import Derived.Deep.Cut
import Derived.Deep.CutRange
import Derived.Deep.CutBlock
import Derived.Deep.QuietTactic
import Derived.BigQuiet
import Derived.Test.YtgjjklajipekdaaGreatHu
import Derived.StillTailTactics
import Derived.Test.YtgjjklajipekdaaGreatVe
namespace Go.Proofs.YtgjjklajipekdaaGreat
set_option maxHeartbeats 16000000
set_option maxRecDepth 100000
open Go.RowKit
set_option linter.unusedVariables false
set_option linter.unusedSimpArgs false
attribute [local go_sem ↓] Go.wp_at_zero Go.wp_at_succ
theorem still_skip_eq {P : Program} {ops : Array Oper} {w : World} {Q : Act → Prop} {a : Act} {o : Oper} {rest : List Oper} (hw : Region.wanted o (yielded ops a.tmps) = false) : wpStill P ops w Q (o :: rest) a = wpStill P ops w Q rest (a.put o.dst undef) := by
 show (if _ then _ else _) = _
 rw [if_neg (by rw [hw]; simp)]
theorem still_do_eq {P : Program} {ops : Array Oper} {w : World} {Q : Act → Prop} {a : Act} {o : Oper} {rest : List Oper} (hw : Region.wanted o (yielded ops a.tmps) = true) : wpStill P ops w Q (o :: rest) a = o.still P a w (wpStill P ops w Q rest) := by
 show (if _ then _ else _) = _
 rw [if_pos hw]
theorem wpList_value {P : Program} {w : World} {ops : Array Oper} {rest : List Oper} {o : Oper} {a : Act} {Q : Exit → Act → World → Prop} (hgd : o.guard = none) (v : Value) (w' : World) (hrun : (execOp a.eval o).run P w = .ok (.value v) w')
  (h : wpList P ops Q rest (a.put o.dst v) w') : wpList P ops Q (o :: rest) a w := by
 refine wpList_plain hgd fun K hK => ?_
 unfold Oper.wp
 rw [hrun]
 exact hK _ _ h
theorem wpList_skip {P : Program} {w : World} {ops : Array Oper} {rest : List Oper} {o : Oper} {a : Act} {Q : Exit → Act → World → Prop} (hgd : o.guard = none) (w' : World) (hrun : (execOp a.eval o).run P w = .ok .skip w')
  (h : wpList P ops Q rest (a.put o.dst undef) w') : wpList P ops Q (o :: rest) a w := by
 refine wpList_plain hgd fun K hK => ?_
 unfold Oper.wp
 rw [hrun]
 exact hK _ _ h
theorem load_blk {w : World} {b : Nat} {t : TypeId} {v0 v1 v2 v3 v4 : Value} (h : Blk w b t [v0, v1, v2, v3, v4]) (o : Oper) (a : Act) (x : Operand) (ho : o.op = .load 178 x) (hx : a.eval x = .pointer (some ⟨b, 0, none⟩)) :
  (execOp a.eval o).run Tryz.prog w = .ok (.value (.agg #[v0, v1, v2, v3, v4])) w := by
 have c0 := h.cell 0 _ rfl
 have c1 := h.cell 1 _ rfl
 have c2 := h.cell 2 _ rfl
 have c3 := h.cell 3 _ rfl
 have c4 := h.cell 4 _ rfl
 generalize a.eval = ev at hx ⊢
 unfold execOp
 simp only [ho]
 go_simp
theorem store_blk {w : World} {b : Nat} {t : TypeId} {v0 v1 v2 v3 v4 : Value} (h : Blk w b t [v0, v1, v2, v3, v4]) (x0 x1 x2 : Int) (a3 a4 : Option Addr) (n3 k3 n4 k4 : Nat) (o : Oper) (a : Act) (x y : Operand) (ho : o.op = .store 178 x y) (hx : a.eval x = .pointer (some ⟨b, 0, none⟩)) (hy : a.eval y = .agg #[.int .i64 x0, .int .i64 x1, .int .i64 x2, .slice a3 n3 k3, .slice a4 n4 k4]) :
  (execOp a.eval o).run Tryz.prog w = .ok .skip (((((w.setCell ⟨b, 0, none⟩ (.int .i64 x0)).setCell ⟨b, 1, none⟩ (.int .i64 x1)).setCell ⟨b, 2, none⟩ (.int .i64 x2)).setCell ⟨b, 3, none⟩ (.slice a3 n3 k3)).setCell ⟨b, 4, none⟩ (.slice a4 n4 k4)) := by
 have c0 := h.cell 0 _ rfl
 have c1 := h.cell 1 _ rfl
 have c2 := h.cell 2 _ rfl
 have c3 := h.cell 3 _ rfl
 have c4 := h.cell 4 _ rfl
 have f := h.frozen
 generalize a.eval = ev at hx hy ⊢
 unfold execOp
 simp only [ho]
 go_simp
theorem BS.pcell {w wx : World} {B br : Nat} {vc : Value} {C : List (Int × Int)} {gp n cp : Nat} {q q1 : LQ} {o : Int} {i k : Nat} {P : List Int} {vb vo : Value} {body oth : T}
  (h : BS w wx B br vc C (.slice (some ⟨gp, 0, none⟩) n cp) q q1 o w.heap.size i k P vb vo body oth) (j : Nat) (hj : j < C.length) : (∃ u, wx.cell? ⟨gp, j, none⟩ = some (.int .i64 u)) ∧ wx.frozen? ⟨gp, j, none⟩ = false := by
 have ho := h.st.parts
 have hl := h.st.plen
 have hn : P.length = n := by obtain ⟨a, c', e, -⟩ := own_shape ho; simp only [Value.slice.injEq] at e; exact e.2.1.symm
 unfold OwnI at ho
 rw [hn] at ho
 refine ⟨⟨_, own_cell ho j (.int .i64 (P[j]'(by omega))) (by rw [List.getElem?_map, List.getElem?_eq_getElem (by omega)]; rfl)⟩, World.ownsRow.frozenAt ho _⟩
theorem at_ltFl {α : Type} (l : List α) {k : Nat} (h : k < l.length) : ∃ x, l[k]? = some x ∧ x ∈ l := ⟨l[k], List.getElem?_eq_getElem h, List.getElem_mem h⟩
theorem take_at {α : Type} {l : List α} {k : Nat} {x : α} (h : l[k]? = some x) : l.take (k + 1) = l.take k ++ [x] := by
 obtain ⟨hk, rfl⟩ := List.getElem?_eq_some_iff.1 h
 rw [List.take_succ_eq_append_getElem hk]
theorem BS.box {w wx : World} {B br : Nat} {vc : Value} {C : List (Int × Int)} {vp : Value} {q q1 : LQ} {o : Int} {i k : Nat} {P : List Int} {vb vo : Value} {body oth : T}
  (h : BS w wx B br vc C vp q q1 o w.heap.size i k P vb vo body oth) : ∃ vs l, (o = 29 → q1 = some (w.heap.size + 1 + 1, vs, l)) ∧ (o ≠ 29 → vs = .slice none 0 0 ∧ l = []) := by
 by_cases h29 : o = 29
 ·have := h.to
  unfold lqIn at this
  rw [if_pos h29] at this
  obtain ⟨vs, l, e, -⟩ := this
  exact ⟨vs, l, fun _ => e, fun h => absurd h29 h⟩
 ·exact ⟨_, _, fun h => absurd h h29, fun _ => ⟨rfl, rfl⟩⟩
theorem BS.boxAt {w wx : World} {B br : Nat} {vc : Value} {C : List (Int × Int)} {gp n cp : Nat} {q q1 : LQ} {o : Int} {i k : Nat} {P : List Int} {vb vo : Value} {body oth : T}
  (h : BS w wx B br vc C (.slice (some ⟨gp, 0, none⟩) n cp) q q1 o w.heap.size i k P vb vo body oth) {vs : Value} {l : List Int} (h1 : o = 29 → q1 = some (w.heap.size + 1 + 1, vs, l)) (h2 : o ≠ 29 → vs = .slice none 0 0 ∧ l = []) :
  Blk wx (w.heap.size + 1 + 1) 78 [vs] ∧ OwnI wx B vs l ∧ (∀ k, vs.ownBlock = some k → k ≠ gp) ∧ (if o = 29 then lqL q1 else []) = l := by
 by_cases h29 : o = 29
 ·have e := h1 h29
  have hl := h.st.leaves
  have nd := h.st.nodup
  rw [e] at hl nd
  refine ⟨hl.1, hl.2, fun k hk hkg => ?_, by rw [if_pos h29, e]; rfl⟩
  subst hkg
  simp [SS, Value.ownBlock, lqS] at nd
  cases vs with
  | slice a n c =>
   simp [Value.ownBlock] at hk nd
   exact nd.2.1.2 hk
  | _ => simp [Value.ownBlock] at hk
 ·obtain ⟨rfl, rfl⟩ := h2 h29
  exact ⟨h.own h29, ⟨by simp, Or.inl ⟨rfl, rfl⟩⟩, fun k hk => by simp [Value.ownBlock] at hk, by rw [if_neg h29]⟩
theorem BS.fin {w wx wy : World} {B br : Nat} {vc : Value} {C : List (Int × Int)} {vp : Value} {q q1 : LQ} {o : Int} {i i0 k : Nat} {P P0 : List Int} {vb vo : Value} {body oth : T}
  (h : BS w wx B br vc C vp q q1 o w.heap.size i k P vb vo body oth) (h0 : St w B br vc C vp i0 P0 q) (hB : B ≤ w.heap.size) (c : Chg [w.heap.size + 1, w.heap.size] wx wy) : St wy B br vc C vp k P (lqOut o q q1) ∧ LqTo w.heap.size q (lqOut o q q1) ∧
   (∀ (a b c : Int), Fr wy (fun x => w.heap.size ≤ x ∧ x ∉ SS br vp (lqOut o q q1)) (.cons a b c body oth .nil) [.int .i64 a, .int .i64 b, .int .i64 c, vb, vo]) ∧ Chg (SS br vp q) w wy := by
 have hl : ∀ k ∈ SS br vp q, k < w.heap.size := fun k hk => SS_lt h0 hk
 obtain ⟨hs, ht, -⟩ := h.out h0
 have hno : ∀ x ∈ [w.heap.size + 1, w.heap.size], x ∉ SS br vp (lqOut o q q1) := fun x hx hm => by
  have hx2 : x = w.heap.size + 1 ∨ x = w.heap.size := by simpa using hx
  unfold lqOut at hm
  split at hm
  ·have := hl x hm; omega
  ·rcases h.base x hm with h1 | h1 | h1 <;> omega
 have hQ : ∀ x ∈ [w.heap.size + 1, w.heap.size], ¬ (w.heap.size + 3 ≤ x ∧ x ∉ SS br vp q1) := fun x hx hq => by simp at hx; omega
 refine ⟨hs.move c hno (by simp; omega), ht, fun a b c' => ?_, h.chg.trans c (fun x hx => Or.inr (by simp at hx; omega))⟩
 have hfb := h.fb.chg c hQ (fun _ _ h => h)
 have hfo := h.fo.chg c hQ (fun _ _ h => h)
 obtain ⟨cb, h1, h2, h3⟩ := hfb
 obtain ⟨co, h4, h5, h6⟩ := hfo
 have hq : ∀ x, (w.heap.size + 3 ≤ x ∧ x ∉ SS br vp q1) → (w.heap.size ≤ x ∧ x ∉ SS br vp (lqOut o q q1)) := fun x hx => ⟨by omega, fun hm => by
  unfold lqOut at hm
  split at hm
  ·have := hl x hm; omega
  ·exact hx.2 hm⟩
 exact ⟨vb, vo, [], rfl, ⟨cb, h1, fun k hn e => hq k (h2 k hn e), h3.ext (Ext.refl wy) (fun k _ h => hq k h)⟩, ⟨co, h4, fun k hn e => hq k (h5 k hn e), h6.ext (Ext.refl wy) (fun k _ h => hq k h)⟩, rfl⟩
theorem blk_any (C : List (Int × Int)) (f : Nat) (ih : ListOK C f) : BlkOK C f := by
 intro w B br vc vp i d q P hSt hBw hC hi hf hd hfw
 obtain ⟨R, hR⟩ := ex (blkF C (lstF C f) i d q.isSome P (lqL q))
 rw [hR]
 replace hR := hidden hR
 replace ih := hidden ih
 obtain ⟨n, hn⟩ := ex C.length
 rw [hn] at hi hf hC
 have hd0 := hidden demand_false
 have hd1 := hidden demand_true
 obtain ⟨qv, hqv⟩ := ex (lqV q)
 rw [hqv]
 replace hqv := hidden hqv
 obtain ⟨ac, cc, hvc, hcc, -⟩ := hSt.code.shape
 rw [hn] at hvc hcc
 subst hvc
 obtain ⟨pb, po, rfl, -, -⟩ := Rd.cells (cs := C.flatMap icell) (w := w) (sz := 2) (by have := hSt.code; unfold Code18 at this; rw [hn] at this; exact this) (show 0 < n by omega)
 have hPl : P.length = n := by rw [hSt.plen, hn]
 obtain ⟨gp, cpp, rfl⟩ : ∃ gp cpp, vp = .slice (some ⟨gp, 0, none⟩) n cpp := by
  have := hSt.parts
  unfold OwnI at this
  rcases this.2 with ⟨h1, h2⟩ | ⟨g, cap, cur, hv, -⟩
  ·omega
  ·exact ⟨g, cap, by rw [hv, hPl]⟩
 have hgb : gp ≠ br := fun e => by
  have nd := hSt.nodup
  simp [SS, Value.ownBlock, e] at nd
 have hbg : br ≠ gp := Ne.symm hgb
 have hgl : gp < w.heap.size := SS_lt hSt (by simp [SS, Value.ownBlock])
 replace hn := hidden hn
 obtain ⟨s, hs⟩ := ex w.heap.size
 have hS1 := hSt.ext ((Ext.refl w).alloc (.cells #[.int .i64 0, .int .i64 0, .int .i64 0, .slice none 0 0, .slice none 0 0] 178))
 have hb6 := Blk.new w [.int .i64 0, .int .i64 0, .int .i64 0, .slice none 0 0, .slice none 0 0] 178
 rw [hs] at hb6 hBw
 obtain ⟨hx00, -⟩ := code_at hSt.code i (by rw [hn.out]; exact hi)
 have hpbs := cell_lt hx00
 simp only [hs] at hpbs
 clear hx00
 obtain ⟨hx0, -⟩ := code_at hS1.code i (by rw [hn.out]; exact hi)
 obtain ⟨o, ho⟩ := ex (opAtFl C i)
 rw [ho] at hx0
 replace ho := hidden ho
 have hB := hS1.rd
 obtain ⟨c0, c1⟩ := hB.c2
 have f1 := hB.frozen 1
 have hbl := hSt.rd.lt
 rw [hs] at hbl hgl
 replace hS1 := hidden hS1
 replace hSt := hidden hSt
 replace hb6 := hidden hb6
 go_enter Tryz.func121, Tryz.ntmps121
 by_cases h8 : 8 < d
 ·have h8t : decide ((d : Int) ≤ 8) = false := by simp; omega
  have hRe : Hid (R = .error i) := by show _ = _; rw [← hR.out]; unfold blkF; rw [if_pos h8]
  go_wp2_with fail
  refine (hd0.out _ _ _).mono ?_
  rintro e w1 ⟨rfl, hw1⟩
  rw [hw1]
  unfold fail
  go_wp2_with fail
  refine ⟨rfl, ?_⟩
  show BlkPost _ _ _ _ _ _ _ R _ _
  rw [hRe.out]
  exact ⟨rfl, (Chg.refl _ w).alloc _⟩
 ·have h8t : decide ((d : Int) ≤ 8) = true := by simp; omega
  go_wp2_with fail
  refine (hd1.out _ _ _).mono ?_
  rintro e w1 ⟨rfl, hw1⟩
  rw [hw1]
  clear hw1
  go_wp2_with fail
  go_region
  go_upto_if 37 with fail
  obtain ⟨W, hW⟩ := ex ((((w.alloc (.cells #[.int .i64 0, .int .i64 0, .int .i64 0, .slice none 0 0, .slice none 0 0] 178)).alloc (.cells #[.int .i64 o, .int .i64 i, .int .i64 0, .slice none 0 0, .slice none 0 0] 178)).alloc (.cells #[.slice none 0 0] 78)).drew)
  rw [hW]
  have XW : Ext w W := by rw [← hW]; exact ((((Ext.refl w).alloc _).alloc _).alloc _).drew
  have h6 : Blk W s 178 [.int .i64 0, .int .i64 0, .int .i64 0, .slice none 0 0, .slice none 0 0] := by
   rw [← hW]; exact ((hb6.out.alloc _).alloc _).drew
  have h7 : Blk W (s + 1) 178 [.int .i64 o, .int .i64 i, .int .i64 0, .slice none 0 0, .slice none 0 0] := by
   have := Blk.new (w.alloc (.cells #[.int .i64 0, .int .i64 0, .int .i64 0, .slice none 0 0, .slice none 0 0] 178)) [.int .i64 o, .int .i64 i, .int .i64 0, .slice none 0 0, .slice none 0 0] 178
   rw [show (w.alloc (.cells #[.int .i64 0, .int .i64 0, .int .i64 0, .slice none 0 0, .slice none 0 0] 178)).heap.size = s + 1 by simp [hs]] at this
   rw [← hW]; exact (this.alloc _).drew
  have h8' : Blk W (s + 1 + 1) 78 [.slice none 0 0] := by
   have := Blk.new ((w.alloc (.cells #[.int .i64 0, .int .i64 0, .int .i64 0, .slice none 0 0, .slice none 0 0] 178)).alloc (.cells #[.int .i64 o, .int .i64 i, .int .i64 0, .slice none 0 0, .slice none 0 0] 178)) [.slice none 0 0] 78
   rw [show ((w.alloc (.cells #[.int .i64 0, .int .i64 0, .int .i64 0, .slice none 0 0, .slice none 0 0] 178)).alloc (.cells #[.int .i64 o, .int .i64 i, .int .i64 0, .slice none 0 0, .slice none 0 0] 178)).heap.size = s + 1 + 1 by simp [hs]] at this
   rw [← hW]; exact this.drew
  subst hs
  have hBS := hidden (BS.start (o := o) hSt.out hBw XW h6 h7 h8')
  clear h6 h7 h8' XW hW hb6 hS1 hB c0 c1 f1 hx0 h8t
  go_cut [2] from 12 to 186 (fun s2 wx => s2 = lqV (lqIn o (w.heap.size + 1 + 1) q) ∧ wx = W)
  case first => as_aux_lemma =>
   by_cases h29 : o = 29
   ·have h29' : (o == 29) = true := by simp; exact h29
    go_wp2_with fail
    go_meet
    exact ⟨by unfold lqIn; rw [if_pos h29]; rfl, rfl⟩
   ·have h29' : (o == 29) = false := by simp; exact h29
    go_wp2_with fail
    go_meet
    exact ⟨by unfold lqIn; rw [if_neg h29]; exact hqv.out.symm, rfl⟩
  case rest => as_aux_lemma =>
   obtain ⟨rfl, hwc⟩ := hcut
   rw [hwc]
   clear hwc
   have hL1 : Hid ((q.isSome || o == 29) = (lqIn o (w.heap.size + 1 + 1) q).isSome) := by show _ = _; unfold lqIn; split <;> simp [*]
   have hl1 : Hid ((if o = 29 then [] else lqL q) = lqL (lqIn o (w.heap.size + 1 + 1) q)) := by show _ = _; unfold lqIn; split <;> rfl
   have hl2 : Hid ((lqL (lqIn o (w.heap.size + 1 + 1) q)).length ≤ i + 1) := by show _ ≤ _; rw [← hl1.out]; split; simp; omega
   obtain ⟨q1, hq1⟩ := ex (lqIn o (w.heap.size + 1 + 1) q)
   rw [hq1] at hBS hL1 hl1 hl2 ⊢
   have hB := hBS.out.st.rd
   obtain ⟨c0, c1⟩ := hB.c2
   have f1 := hB.frozen 1
   have hb1 := hBS.out.bump hSt.out (i + 1)
   have hcall := ih.out _ B br _ _ (i + 1) d q1 P hb1.st (by have := hb1.size; omega) (by rw [hn.out]; exact hC) (by rw [hn.out]; omega) (by rw [hn.out]; omega) (by omega) hl2.out
   rw [show ((i + 1 : Nat) : Int) = (i : Int) + 1 by omega] at hb1 hcall
   replace hb1 := hidden hb1
   replace hcall := hidden hcall
   replace hq1 := hidden hq1
   go_wp2_with fail
   refine hcall.out.mono ?_
   clear hcall
   rintro e w1 hP
   have hRx : Hid ((match lstF C f (i + 1) d q1.isSome .nil P (lqL q1) with
    | .error e => .error e
    | .ok (body, j, P1, lv1) =>
     if o = 27 ∧ j < C.length ∧ opAtFl C j = 28 then
      match lstF C f (j + 1) d q.isSome .nil (P1.set i j) lv1 with
      | .error e => .error e
      | .ok (oth, k, P2, lv2) => finF C o i j k body oth P2 lv2 (lqL q)
     else finF C o i i j body .nil P1 lv1 (lqL q) : PRes) = R) := by
    have := hR.out
    unfold blkF at this
    rw [if_neg h8, ho.out, hL1.out, hl1.out] at this
    exact this
   cases hlk : lstF C f (i + 1) d q1.isSome .nil P (lqL q1) with
   | error er =>
    rw [hlk] at hP hRx
    have hRe := hRx.out
    simp only at hRe
    replace hRe := hidden hRe
    replace hlk := hidden hlk
    obtain ⟨rfl, hX1⟩ := hP
    clear hRx
    have hXX := hidden (hb1.out.err hX1)
    unfold fail
    go_wp2_with fail
    refine ⟨rfl, ?_⟩
    show BlkPost _ _ _ _ _ _ _ R _ _
    rw [← hRe.out]
    exact ⟨rfl, hXX.out⟩
   | ok r =>
    rw [hlk] at hP hRx
    have hge := lst_ge C f _ _ _ _ _ _ _ (by rw [hn.out]; omega) hlk
    have hlv0 : o = 29 → _ := fun h29 => lst_lv C f _ _ _ _ _ _ _ (by rw [hn.out]; omega) (by rw [← hl1.out, if_pos h29]; simp) hlk
    obtain ⟨body, j, P1, lv1⟩ := r
    simp only at hRx hge hlv0
    have hge2 : j ≤ n := by rw [← hn.out]; exact hge.2.1
    have hge3 := hidden (hge.2.2 hl2.out)
    obtain ⟨v, cs, q2, rfl, hO, hoff, hF, hS2, hlq, hto, hX1⟩ := hP
    obtain ⟨va, vcp, rfl, -⟩ := own_shape hO
    have hyy := hb1.out.step hSt.out hX1 (fun x hx => hx) hS2 hto
    have hvv := SubAt.of_list (s := w.heap.size) hb1.out.size hO hoff hF
    have hbb := hyy.setB hSt.out hBw hvv
    have b1 := hyy.blk.cell 1 _ rfl
    have b0 := hyy.blk.cell 0 _ rfl
    have b3 := hyy.blk.cell 3 _ rfl
    have g3 := hyy.blk.frozen 3
    replace hge := hge.1
    replace hlk := hidden hlk
    replace hlv0 := hidden hlv0
    replace hlq := hidden hlq
    replace hbb := hidden hbb
    clear hO hoff hF hS2 hto hX1 hyy hvv
    go_upto_region 9 with fail
    obtain ⟨w2, hw2⟩ := ex (w1.setCell ⟨w.heap.size + 1, 3, none⟩ (.slice va body.len vcp))
    rw [hw2] at hbb ⊢
    clear b0 b1 b3 g3 hB c0 c1 f1 hw2 hBS hb1
    have hB := hbb.out.st.rd
    obtain ⟨c0, c1⟩ := hB.c2
    have f1 := hB.frozen 1
    have b0 := hbb.out.blk.cell 0 _ rfl
    go_cut [80] from 10 to 186 (fun s80 wx => ∃ (t : Bool) (nq : Nat), s80 = .bool t ∧ (t = true ↔ (o = 27 ∧ j < n ∧ opAtFl C j = 28)) ∧ wx = w2.drewN nq)
    case first => as_aux_lemma =>
     by_cases h27 : o = 27
     ·have h27' : (o == 27) = true := by simp; exact h27
      by_cases hjn : j < n
      ·have hjn' : decide ((j : Int) < (n : Int)) = true := by simp; exact hjn
       obtain ⟨hxj, -⟩ := code_at hbb.out.st.code j (by rw [hn.out]; exact hjn)
       obtain ⟨y, hy⟩ := ex (opAtFl C j)
       rw [hy] at hxj
       replace hy := hidden hy
       by_cases hy28 : y = 28
       ·have hy28' : (y == 28) = true := by simp; exact hy28
        go_quiet (fail)
        go_wp2_with fail
        go_meet
        exact ⟨true, _, rfl, by rw [hy.out]; simp [h27, hjn, hy28], rfl⟩
       ·have hy28' : (y == 28) = false := by simp; exact hy28
        go_quiet (fail)
        go_wp2_with fail
        go_meet
        exact ⟨false, _, rfl, by rw [hy.out]; simp [h27, hjn, hy28], rfl⟩
      ·have hjn' : decide ((j : Int) < (n : Int)) = false := by simp; omega
       go_quiet (fail)
       go_wp2_with fail
       go_meet
       exact ⟨false, _, rfl, by simp [hjn], rfl⟩
     ·have h27' : (o == 27) = false := by simp; exact h27
      go_quiet (fail)
      go_wp2_with fail
      go_meet
      exact ⟨false, _, rfl, by simp [h27], rfl⟩
    case rest => as_aux_lemma =>
     obtain ⟨t, nq, rfl, ht, hwc⟩ := hcut
     rw [hwc]
     clear hwc
     replace ht := hidden ht
     replace hbb := hidden (hbb.out.step hSt.out (S := []) ((Chg.refl _ w2).drewN nq) (by simp) (hbb.out.st.move ((Chg.refl [] w2).drewN nq) (by simp) (by simp)) (LqTo.refl _ _))
     obtain ⟨w3, hw3⟩ := ex (w2.drewN nq)
     rw [hw3] at hbb ⊢
     clear hw3 hB c0 c1 f1 b0
     go_upto_if 80 with fail
     go_cut [9] from 12 to 186 (fun s9 wx => ∃ (wc : World) (last k : Nat) (P2 : List Int) (q3 : LQ) (vo : Value) (oth : T), wx = wc ∧ s9 = .int .i64 last ∧ i ≤ last ∧ last < k ∧ k ≤ n ∧ Hid (finF C o i last k body oth P2 (lqL q3) (lqL q) = R) ∧ Hid (∀ x ∈ lqL q3, o = 29 → 0 ≤ x ∧ x < (n : Int)) ∧
      Hid (BS w wc B br (.slice (some ⟨pb, po, none⟩) n cc) C (.slice (some ⟨gp, 0, none⟩) n cpp) q q3 o w.heap.size i k P2 (.slice va body.len vcp) vo body oth))
     case first => as_aux_lemma =>
      cases t with
      | false =>
       go_wp2_with fail
       go_meet
       refine ⟨_, i, j, P1, q2, _, .nil, rfl, rfl, by omega, by omega, hge2, hidden ?_, hidden (fun x hx h29 => ?_), hbb⟩
       ·rw [← hRx.out, if_neg (fun h => by have := ht.out.2 (by rw [hn.out] at h; exact h); simp at this), hlq.out]
       ·rw [hlq.out] at hx; have := hlv0.out h29 x hx; rw [hn.out] at this; exact this
      | true =>
       have h3 := hidden (ht.out.1 rfl)
       obtain ⟨h27, hjn, h28⟩ := h3.out
       clear ht
       have hq27 : Hid (q = q1) := by show _ = _; rw [← hq1.out]; unfold lqIn; rw [if_neg (by omega)]
       have hB := hbb.out.st.rd
       obtain ⟨c0, c1, c2⟩ := hB.c3
       have f1 := hB.frozen 1
       obtain ⟨⟨u0, p0⟩, pf⟩ := hbb.out.pcell i (by rw [hn.out]; exact hi)
       have hin : (i : Int) < (n : Int) := by omega
       go_upto_region 10 with fail
       go_still_tail 10, (by kernel_rfl)
       change wpList _ _ _ _ _ w3.drew
       clear hB c0 c1 c2 f1 p0 pf
       replace hbb := hidden (hbb.out.drew hSt.out)
       obtain ⟨w4, hw4⟩ := ex w3.drew
       rw [hw4] at hbb ⊢
       clear hw4
       obtain ⟨⟨u1, p0⟩, pf⟩ := hbb.out.pcell i (by rw [hn.out]; exact hi)
       go_upto_region 11 with fail
       clear p0 pf
       replace hbb := hidden (hbb.out.setP hSt.out i j)
       obtain ⟨w5, hw5⟩ := ex (w4.setCell ⟨gp, i, none⟩ (.int .i64 j))
       rw [hw5] at hbb ⊢
       clear hw5
       have hB := hbb.out.st.rd
       obtain ⟨c0, c1⟩ := hB.c2
       have f1 := hB.frozen 1
       have hb1 := hbb.out.bump hSt.out (j + 1)
       have hsame := hb1.to.same
       rw [hq1.out] at hsame
       have hcall := ih.out _ B br _ _ (j + 1) d q2 (P1.set i j) hb1.st (by have := hb1.size; omega) (by rw [hn.out]; exact hC) (by rw [hn.out]; omega) (by rw [hn.out]; omega) (by omega) (by rw [hlq.out]; have := hge3.out; omega)
       rw [show ((j + 1 : Nat) : Int) = (j : Int) + 1 by omega] at hb1 hcall
       rw [hsame.1, show q2.isSome = q.isSome by rw [hsame.2, ← hq27.out], hlq.out] at hcall
       replace hb1 := hidden hb1
       replace hcall := hidden hcall
       replace hsame := hidden hsame
       have hwj : IntKind.i64.wrap ((j : Int) + 1) = (j : Int) + 1 := IntWalk.i64_in _ (by omega)
       go_wp2_with fail
       refine hcall.out.mono ?_
       clear hcall
       rintro e w6 hP
       have hRy := hRx.out
       rw [if_pos (by rw [hn.out]; exact h3.out)] at hRy
       replace hRy := hidden hRy
       cases hl2k : lstF C f (j + 1) d q.isSome .nil (P1.set i j) lv1 with
       | error er =>
        rw [hl2k] at hP hRy
        have hRe := hRy.out
        simp only at hRe
        replace hRe := hidden hRe
        replace hl2k := hidden hl2k
        obtain ⟨rfl, hX1⟩ := hP
        clear hRx hRy
        have hXX := hidden (hb1.out.err hX1)
        unfold fail
        go_wp2_with fail
        refine ⟨rfl, ?_⟩
        show BlkPost _ _ _ _ _ _ _ R _ _
        rw [← hRe.out]
        exact ⟨rfl, hXX.out⟩
       | ok r2 =>
        rw [hl2k] at hP hRy
        have hgf := lst_ge C f _ _ _ _ _ _ _ (by rw [hn.out]; omega) hl2k
        obtain ⟨oth, k, P2, lv2⟩ := r2
        simp only at hRy hgf
        have hgf1 := hgf.1
        have hgf2 : k ≤ n := by rw [← hn.out]; exact hgf.2.1
        obtain ⟨v, cs, q3, rfl, hO, hoff, hF, hS2, hlq2, hto, hX1⟩ := hP
        obtain ⟨va2, vcp2, rfl, -⟩ := own_shape hO
        have hyy := hb1.out.step hSt.out hX1 (fun x hx => hx) hS2 hto
        have hvv := SubAt.of_list (s := w.heap.size) hb1.out.size hO hoff hF
        have hbb := hyy.setO hSt.out hBw hvv
        have b4 := hyy.blk.cell 4 _ rfl
        have g4 := hyy.blk.frozen 4
        replace hl2k := hidden hl2k
        replace hlq2 := hidden hlq2
        replace hbb := hidden hbb
        clear hO hoff hF hS2 hto hX1 hyy hvv hgf
        go_wp2_with fail
        go_meet
        refine ⟨_, j, k, P2, q3, _, oth, rfl, rfl, by omega, by omega, hgf2, hidden ?_, hidden (fun x hx h29 => by omega), hbb⟩
        rw [← hRy.out, hlq2.out]
     case rest => as_aux_lemma =>
      obtain ⟨wc, last, k, P2, q3, vo, oth, hwc, rfl, hil, hlk2, hkn, hRf, hlv, hbb⟩ := hcut
      rw [hwc]
      clear hwc
      have hB := hbb.out.st.rd
      obtain ⟨c0, c1, c2⟩ := hB.c3
      have f1 := hB.frozen 1
      have b1 := hbb.out.blk.cell 1 _ rfl
      go_upto_region 14 with fail
      by_cases hok : k < n ∧ opAtFl C k = 31
      ·obtain ⟨hkn2, hk31⟩ := hok
       have hkn' : decide ((k : Int) < (n : Int)) = true := by simp; exact hkn2
       have hkn3 : (k : Int) < (n : Int) := by omega
       obtain ⟨hxk, -⟩ := code_at hbb.out.st.code k (by rw [hn.out]; exact hkn2)
       rw [hk31] at hxk
       go_still_tail 28, (by kernel_rfl)
       change wpList _ _ _ _ _ wc.drew
       go_wp2_with fail
       refine (hd1.out _ _ _).mono ?_
       rintro e w8 ⟨rfl, hw8⟩
       rw [hw8]
       clear hw8 hB c0 c1 c2 f1 b1 hxk
       have hRz : Hid (R = .ok (.cons o i (k + 1) body oth .nil, k + 1, (if o = 29 then lqL q3 else []).foldl (fun P x => P.set x.toNat k) ((P2.set last k).set k i), if o = 29 then lqL q else lqL q3)) := by
        show _ = _
        rw [← hRf.out]; unfold finF; rw [if_pos (by rw [hn.out]; exact ⟨hkn2, hk31⟩)]
       clear hRf
       replace hk31 := hidden hk31
       replace hbb := hidden (hbb.out.drew hSt.out)
       obtain ⟨wd, hwd⟩ := ex wc.drew
       rw [hwd] at hbb ⊢
       clear hwd
       have hB := hbb.out.st.rd
       have c1 := hB.cell 1 _ rfl
       have c2 := hB.cell 2 _ rfl
       have b1 := hbb.out.blk.cell 1 _ rfl
       have hll : (last : Int) < (n : Int) := by omega
       clear hB
       obtain ⟨⟨ua, pa⟩, fa⟩ := hbb.out.pcell last (by rw [hn.out]; omega)
       obtain ⟨⟨ub, pb2⟩, fb⟩ := hbb.out.pcell k (by rw [hn.out]; omega)
       have hs1 : gp ≠ w.heap.size + 1 := by omega
       have hs2 : w.heap.size + 1 ≠ gp := by omega
       have hs3 : last ≠ k := by omega
       have hs4 : k ≠ last := by omega
       go_upto_region 15 with fail
       obtain ⟨P4, hP4⟩ := ex ((P2.set last k).set k (i : Int))
       rw [hP4] at hRz
       replace hP4 := hidden hP4
       go_cut [9] from 136 to 186 (fun s9 wx => ∃ wz : World, wx = wz ∧ s9 = .int .i64 last ∧ Hid (BS w wz B br (.slice (some ⟨pb, po, none⟩) n cc) C (.slice (some ⟨gp, 0, none⟩) n cpp) q q3 o w.heap.size i k P4 (.slice va body.len vcp) vo body oth))
       case first => as_aux_lemma =>
        have HS1 : wd.cell? ⟨br, 1, none⟩ = some (.int .i64 (k : Int)) ∧ wd.cell? ⟨br, 2, none⟩ = some (.slice (some ⟨gp, 0, none⟩) n cpp) ∧ wd.cell? ⟨w.heap.size + 1, 1, none⟩ = some (.int .i64 (i : Int)) := ⟨c1, c2, b1⟩
        have pa1 := pa
        have pb3 : (wd.setCell ⟨gp, last, none⟩ (.int .i64 (k : Int))).cell? ⟨gp, k, none⟩ = some (.int .i64 ub) := (World.cell?_setCell_other _ _ _ _ (by intro e; rw [Addr.mk.injEq] at e; omega)).trans pb2
        refine wp_region_held_drew (S := fun W' => W'.cell? ⟨br, 1, none⟩ = some (.int .i64 (k : Int)) ∧ W'.cell? ⟨br, 2, none⟩ = some (.slice (some ⟨gp, 0, none⟩) n cpp) ∧ W'.cell? ⟨w.heap.size + 1, 1, none⟩ = some (.int .i64 (i : Int))) (by kernel_rfl) HS1 (fun HS => ?_)
        refine tkh 0 (.pointer (some ⟨br, 0, none⟩)) HS ?_
        simp only [List.setIfInBounds_toArray, List.set_cons_zero, List.set_cons_succ]
        refine tkh 1 (.pointer (some ⟨br, 0, none⟩)) HS ?_
        simp only [List.setIfInBounds_toArray, List.set_cons_zero, List.set_cons_succ]
        refine tkh 2 (.pointer (some ⟨br, 2, none⟩)) HS ?_
        simp only [List.setIfInBounds_toArray, List.set_cons_zero, List.set_cons_succ]
        refine tkh 3 (.slice (some ⟨gp, 0, none⟩) n cpp) HS ?_
        simp only [List.setIfInBounds_toArray, List.set_cons_zero, List.set_cons_succ]
        refine tkh 4 (.int .i64 (last : Int)) HS ?_
        simp only [List.setIfInBounds_toArray, List.set_cons_zero, List.set_cons_succ]
        refine tkh 5 (.pointer (some ⟨br, 0, none⟩)) HS ?_
        simp only [List.setIfInBounds_toArray, List.set_cons_zero, List.set_cons_succ]
        refine tkh 6 (.pointer (some ⟨br, 0, none⟩)) HS ?_
        simp only [List.setIfInBounds_toArray, List.set_cons_zero, List.set_cons_succ]
        refine tkh 7 (.pointer (some ⟨br, 2, none⟩)) HS ?_
        simp only [List.setIfInBounds_toArray, List.set_cons_zero, List.set_cons_succ]
        refine tkh 8 (.slice (some ⟨gp, 0, none⟩) n cpp) HS ?_
        simp only [List.setIfInBounds_toArray, List.set_cons_zero, List.set_cons_succ]
        refine tkh 9 (.pointer (some ⟨br, 0, none⟩)) HS ?_
        simp only [List.setIfInBounds_toArray, List.set_cons_zero, List.set_cons_succ]
        refine tkh 10 (.pointer (some ⟨br, 0, none⟩)) HS ?_
        simp only [List.setIfInBounds_toArray, List.set_cons_zero, List.set_cons_succ]
        refine tkh 11 (.pointer (some ⟨br, 1, none⟩)) HS ?_
        simp only [List.setIfInBounds_toArray, List.set_cons_zero, List.set_cons_succ]
        refine tkh 12 (.int .i64 (k : Int)) HS ?_
        simp only [List.setIfInBounds_toArray, List.set_cons_zero, List.set_cons_succ]
        refine tkh 13 (.pointer (some ⟨br, 0, none⟩)) HS ?_
        simp only [List.setIfInBounds_toArray, List.set_cons_zero, List.set_cons_succ]
        refine tkh 14 (.pointer (some ⟨br, 0, none⟩)) HS ?_
        simp only [List.setIfInBounds_toArray, List.set_cons_zero, List.set_cons_succ]
        refine tkh 15 (.pointer (some ⟨br, 1, none⟩)) HS ?_
        simp only [List.setIfInBounds_toArray, List.set_cons_zero, List.set_cons_succ]
        refine tkh 16 (.int .i64 (k : Int)) HS ?_
        simp only [List.setIfInBounds_toArray, List.set_cons_zero, List.set_cons_succ]
        refine tkh 17 (.pointer (some ⟨w.heap.size + 1, 1, none⟩)) HS ?_
        simp only [List.setIfInBounds_toArray, List.set_cons_zero, List.set_cons_succ]
        refine tkh 18 (.int .i64 (i : Int)) HS ?_
        simp only [List.setIfInBounds_toArray, List.set_cons_zero, List.set_cons_succ]
        refine tkh 19 (.pointer (some ⟨gp, last, none⟩)) HS ?_
        simp only [List.setIfInBounds_toArray, List.set_cons_zero, List.set_cons_succ]
        have HSs : ∀ (W' : World) (j : Nat) (v : Value), (W'.cell? ⟨br, 1, none⟩ = some (.int .i64 (k : Int)) ∧ W'.cell? ⟨br, 2, none⟩ = some (.slice (some ⟨gp, 0, none⟩) n cpp) ∧ W'.cell? ⟨w.heap.size + 1, 1, none⟩ = some (.int .i64 (i : Int))) → ((W'.setCell ⟨gp, j, none⟩ v).cell? ⟨br, 1, none⟩ = some (.int .i64 (k : Int)) ∧ (W'.setCell ⟨gp, j, none⟩ v).cell? ⟨br, 2, none⟩ = some (.slice (some ⟨gp, 0, none⟩) n cpp) ∧ (W'.setCell ⟨gp, j, none⟩ v).cell? ⟨w.heap.size + 1, 1, none⟩ = some (.int .i64 (i : Int))) := fun W' j v h => ⟨(World.cell?_setCell_far _ _ _ _ hgb).trans h.1, (World.cell?_setCell_far _ _ _ _ hgb).trans h.2.1, (World.cell?_setCell_far _ _ _ _ hs1).trans h.2.2⟩
        refine storeH 20 rfl rfl (by kernel_rfl) (by rfl) (w' := wd.drew.setCell ⟨gp, last, none⟩ (.int .i64 (k : Int))) (by go_simp) (HSs _ _ _ HS) ?_
        refine takeH 21 (.pointer (some ⟨gp, k, none⟩)) rfl rfl (by kernel_rfl) (by kernel_rfl) (by kernel_rfl) (fun _ _ _ h => h) (by rfl) (fun w' hw' => by go_simp) (HSs _ _ _ HS) ?_
        simp only [List.setIfInBounds_toArray, List.set_cons_zero, List.set_cons_succ]
        refine storeH 22 rfl rfl (by kernel_rfl) (by rfl) (w' := (wd.drew.setCell ⟨gp, last, none⟩ (.int .i64 (k : Int))).setCell ⟨gp, k, none⟩ (.int .i64 (i : Int))) (by go_simp) (HSs _ _ _ (HSs _ _ _ HS)) ?_
        refine wpAnyH_done (by kernel_rfl) ?_ _
        go_wp2_with fail
        go_meet
        refine ⟨_, rfl, rfl, hidden ?_⟩
        have := ((hbb.out.drew hSt.out).setP hSt.out last k).setP hSt.out k i
        rw [hP4.out] at this
        exact this
       case rest => as_aux_lemma =>
        obtain ⟨wg, hwg, -, hbb⟩ := hcut
        rw [hwg]
        clear hwg c1 c2 b1 pa fa pb2 fb hs1 hs2 hs3 hs4
        obtain ⟨vs, l, hv1, hv2⟩ := hbb.out.box
        obtain ⟨hbx, hoo, hng, hll2⟩ := hbb.out.boxAt hv1 hv2
        obtain ⟨xa, xc, rfl, hxc, hxc2, -⟩ := own_shape hoo
        obtain ⟨L, hL⟩ := ex l.length
        rw [hL] at hbx hng hxc hv1 hv2
        have x0 := hbx.cell 0 _ rfl
        rw [hll2] at hRz
        have hlb : Hid (∀ x ∈ l, 0 ≤ x ∧ x < (n : Int)) := by
         intro x hx
         rw [← hll2] at hx
         by_cases h29 : o = 29
         ·rw [if_pos h29] at hx; exact hlv.out x hx h29
         ·rw [if_neg h29] at hx; simp at hx
        replace hL := hidden hL
        replace hv1 := hidden hv1
        replace hv2 := hidden hv2
        clear hll2 hlv hbx hoo
        go_wp2_with fail
        go_loopw [159] (fun ix wr => ∃ (m : Nat) (Px : List Int), m ≤ L ∧ ix = .int .i64 (m : Int) ∧ Hid ((l.take m).foldl (fun P x => P.set x.toNat k) P4 = Px) ∧ Hid (BS w wr B br (.slice (some ⟨pb, po, none⟩) n cc) C (.slice (some ⟨gp, 0, none⟩) n cpp) q q3 o w.heap.size i k Px (.slice va body.len vcp) vo body oth)) (fun ix _ => (L - intOf ix).toNat)
        case atStart => exact ⟨0, P4, by omega, rfl, rfl, hbb⟩
        case round => as_aux_lemma =>
         obtain ⟨m, Px, hm, rfl, hpx, hbz⟩ := hrel
         obtain ⟨W, hWW⟩ : ∃ Z, Z = wr := ⟨_, rfl⟩
         subst hWW
         by_cases hlt : m < L
         ·obtain ⟨x, hx, hxm⟩ := at_ltFl l (k := m) (by rw [hL.out]; exact hlt)
          obtain ⟨hx1, hx2⟩ := hlb.out x hxm
          obtain ⟨xn, rfl⟩ : ∃ xn : Nat, x = (xn : Int) := ⟨x.toNat, by omega⟩
          have hst : Hid ((l.take (m + 1)).foldl (fun P x => P.set x.toNat (k : Int)) P4 = Px.set xn k) := by
           show _ = _
           rw [take_at hx, List.foldl_append, hpx.out]
           rfl
          obtain ⟨hbx, hoo, -, -⟩ := hbz.out.boxAt hv1.out hv2.out
          have hoo2 := hoo
          unfold OwnI at hoo2
          rw [hL.out] at hoo2
          rcases hoo2.2 with ⟨h1, h2⟩ | ⟨g, cap2, cur, hvv, -⟩
          ·omega
          simp only [Value.slice.injEq] at hvv
          obtain ⟨rfl, -, rfl⟩ := hvv
          have y0 := own_cell hoo2 m (.int .i64 xn) (by rw [List.getElem?_map, hx]; rfl)
          have hgg := hng g rfl
          have hmL : (m : Int) < (L : Int) := by omega
          have hwm : IntKind.i64.wrap ((m : Int) + 1) = (m : Int) + 1 := IntWalk.i64_in _ (by omega)
          have hB := hbz.out.st.rd
          have c1 := hB.cell 1 _ rfl
          have c2 := hB.cell 2 _ rfl
          clear hB hbx hoo hoo2
          replace hx := hidden hx
          replace hxm := hidden hxm
          go_upto_region 19 with fail
          go_still_tail 10, (by kernel_rfl)
          change wpList _ _ _ _ _ W.drew
          clear c1 c2 y0
          replace hbz := hidden (hbz.out.drew hSt.out)
          obtain ⟨wh, hwh⟩ := ex W.drew
          rw [hwh] at hbz ⊢
          clear hwh
          obtain ⟨⟨uc, pc⟩, fc⟩ := hbz.out.pcell xn (by rw [hn.out]; omega)
          replace hbz := hidden (hbz.out.setP hSt.out xn k)
          go_wp2_with fail
          go_roundw
          case rel => exact ⟨m + 1, _, by omega, by go_num, hst, hbz⟩
          case measure => simp [intOf]; omega
         ·obtain rfl : m = L := by omega
          rw [List.take_of_length_le (by rw [hL.out]; exact Nat.le_refl _)] at hpx
          have hpy := hpx.out
          rw [hpy] at hRz
          clear hpx hpy
          have hwk : IntKind.i64.wrap ((k : Int) + 1) = (k : Int) + 1 := IntWalk.i64_in _ (by omega)
          have hB := hbz.out.st.rd
          have c1 := hB.cell 1 _ rfl
          have f1 := hB.frozen 1
          clear hB
          go_upto_region 22 with fail
          clear c1 f1
          have hbk := hbz.out.bump hSt.out (k + 1)
          rw [show ((k + 1 : Nat) : Int) = (k : Int) + 1 by omega] at hbk
          obtain ⟨co2, hco2, -, -⟩ := hbk.fo
          obtain ⟨oa, oc, rfl, -⟩ := Rd.shape hco2
          replace hbk := hidden hbk
          clear hbz hco2
          obtain ⟨wk, hwk⟩ := ex (W.setCell ⟨br, 1, none⟩ (.int .i64 ((k : Int) + 1)))
          rw [hwk] at hbk ⊢
          clear hwk
          have hB := hbk.out.st.rd
          have c1 := hB.cell 1 _ rfl
          have bb := hbk.out.blk
          have b2 := bb.cell 2 _ rfl
          have g2 := bb.frozen 2
          go_upto_region 23 with fail
          clear hB c1 b2 g2
          obtain ⟨wl, hwl⟩ := ex (wk.setCell ⟨w.heap.size + 1, 2, none⟩ (.int .i64 ((k : Int) + 1)))
          have bl := bb.set 2 (.int .i64 ((k : Int) + 1))
          have br2 := hbk.out.res.set_other (c := w.heap.size + 1) (i := 2) (by omega) (.int .i64 ((k : Int) + 1))
          have hcc2 := (Chg.refl [w.heap.size + 1, w.heap.size] wk).setCell (p := ⟨w.heap.size + 1, 2, none⟩) (Or.inl (by simp)) (.int .i64 ((k : Int) + 1))
          rw [hwl] at bl br2 hcc2 ⊢
          obtain ⟨d0, d1, d2, d3, d4⟩ := bl.c5
          obtain ⟨r0, r1, r2, r3, r4⟩ := br2.c5
          have rf := br2.frozen
          clear hge2 hge hil hlk2 hkn hkn2 hkn' hkn3 hll hxc hxc2 hng x0 hm hlt hwk hC hf hi hd hfw hPl hcc bb d0 d1 d2 d3 d4 r0 r1 r2 r3 r4 rf
          have hst := store_blk br2 o i ((k : Int) + 1) va oa body.len vcp oth.len oc
          have bz := ((((br2.set 0 (.int .i64 o)).set 1 (.int .i64 i)).set 2 (.int .i64 ((k : Int) + 1))).set 3 (.slice va body.len vcp)).set 4 (.slice oa oth.len oc)
          have hcz := ((((hcc2.setCell (p := ⟨w.heap.size, 0, none⟩) (Or.inl (by simp)) (.int .i64 o)).setCell (p := ⟨w.heap.size, 1, none⟩) (Or.inl (by simp)) (.int .i64 i)).setCell (p := ⟨w.heap.size, 2, none⟩) (Or.inl (by simp)) (.int .i64 ((k : Int) + 1))).setCell (p := ⟨w.heap.size, 3, none⟩) (Or.inl (by simp)) (.slice va body.len vcp)).setCell (p := ⟨w.heap.size, 4, none⟩) (Or.inl (by simp)) (.slice oa oth.len oc)
          obtain ⟨Wz, hWz⟩ := ex (((((wl.setCell ⟨w.heap.size, 0, none⟩ (.int .i64 o)).setCell ⟨w.heap.size, 1, none⟩ (.int .i64 i)).setCell ⟨w.heap.size, 2, none⟩ (.int .i64 ((k : Int) + 1))).setCell ⟨w.heap.size, 3, none⟩ (.slice va body.len vcp)).setCell ⟨w.heap.size, 4, none⟩ (.slice oa oth.len oc))
          rw [hWz] at bz hcz hst
          replace bz := hidden bz
          replace hcz := hidden hcz
          replace bl := hidden bl
          replace hst := hidden hst
          clear hWz br2 hcc2
          rename_i hKK
          refine wp_region_lit ?_
          refine wpList_value rfl _ _ (load_blk bl.out _ _ _ rfl rfl) ?_
          refine wpList_skip rfl _ (hst.out _ _ _ _ rfl rfl rfl) ?_
          refine wpList_nil ?_
          refine hKK _ _ ?_
          refine wp_ret ?_
          obtain ⟨e0, e1, e2, e3, e4⟩ := bz.out.c5
          obtain ⟨f1, f2, f3, f4⟩ := hbk.out.fin hSt.out hBw hcz.out
          refine bodyPost_ret (v := .agg #[.int .i64 o, .int .i64 i, .int .i64 ((k : Int) + 1), .slice va body.len vcp, .slice oa oth.len oc]) (by simp [results, Tryz.results121, go_sem, e0, e1, e2, e3, e4]) rfl ?_
          unfold BlkPost
          rw [hRz]
          exact ⟨_, _, _, _, _, lqOut o q q3, rfl, rfl, f3 _ _ _, f1, by unfold lqOut; split <;> rfl, f2, f4⟩
      ·have hRe : Hid (R = .error k) := by
        show _ = _
        rw [← hRf.out]; unfold finF; rw [if_neg (by rw [hn.out]; exact hok)]
       have hXX := hidden (hbb.out.err (Chg.refl _ wc).drew)
       by_cases hkn2 : k < n
       ·have hkn' : decide ((k : Int) < (n : Int)) = true := by simp; exact hkn2
        have hkn3 : (k : Int) < (n : Int) := by omega
        obtain ⟨hxk, -⟩ := code_at hbb.out.st.code k (by rw [hn.out]; exact hkn2)
        obtain ⟨y, hy⟩ := ex (opAtFl C k)
        rw [hy] at hxk
        have hy31 : (y == 31) = false := by simp; intro h; exact hok ⟨hkn2, by rw [hy]; exact h⟩
        clear hok
        replace hy := hidden hy
        go_still_tail 28, (by kernel_rfl)
        change wpList _ _ _ _ _ wc.drew
        go_wp2_with fail
        refine (hd0.out _ _ _).mono ?_
        rintro e w8 ⟨rfl, hw8⟩
        rw [hw8]
        unfold fail
        go_wp2_with fail
        refine ⟨rfl, ?_⟩
        show BlkPost _ _ _ _ _ _ _ R _ _
        rw [hRe.out]
        exact ⟨rfl, hXX.out⟩
       ·have hkn' : decide ((k : Int) < (n : Int)) = false := by simp; omega
        clear hok
        refine wp_region_still_tail 28 (by kernel_rfl) (by kernel_rfl) ?_
        simp only [List.take_succ_cons, List.take_zero, List.drop_succ_cons, List.drop_zero]
        iterate 11 still_step
        iterate 12 (rw [still_skip_eq]; rotate_left; kernel_rfl; try go_simp)
        iterate 5 (rw [still_do_eq]; rotate_left; kernel_rfl; go_simp)
        refine wpStill_nil ?_
        change wpList _ _ _ _ _ wc.drew
        go_wp2_with fail
        refine (hd0.out _ _ _).mono ?_
        rintro e w8 ⟨rfl, hw8⟩
        rw [hw8]
        unfold fail
        go_wp2_with fail
        refine ⟨rfl, ?_⟩
        show BlkPost _ _ _ _ _ _ _ R _ _
        rw [hRe.out]
        exact ⟨rfl, hXX.out⟩
theorem list_all (C : List (Int × Int)) (f : Nat) : ListOK C f := by
 induction f using Nat.strongRecOn with
 | ind f ih => exact list_any C f (fun f' h => blk_any C f' (ih f' h))
end Go.Proofs.YtgjjklajipekdaaGreat
