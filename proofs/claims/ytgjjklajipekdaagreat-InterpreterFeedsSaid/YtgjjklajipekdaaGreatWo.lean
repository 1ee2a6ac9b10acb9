
import Derived.Test.YtgjjklajipekdaaGreatWj
import Derived.Test.YtgjjklajipekdaaGreatWg
import Derived.Test.YtgjjklajipekdaaGreatWc
import Derived.Test.YtgjjklajipekdaaGreatVg
namespace Go.Proofs.YtgjjklajipekdaaGreat
set_option maxHeartbeats 16000000
set_option maxRecDepth 100000
open Go.RowKit
set_option linter.unusedVariables false
set_option linter.unusedSimpArgs false
attribute [local go_sem ↓] Go.wp_at_zero Go.wp_at_succ
def RdI (w : World) (v : Value) (l : List Int) : Prop := Rd w 1 v l.length (l.map (Value.int .i64))
theorem OwnI.rd {w : World} {B : Nat} {v : Value} {l : List Int} (h : OwnI w B v l) : RdI w v l := Rd.of_own h
theorem OwnC.rd {w : World} {B : Nat} {v : Value} {l : List (Int × Int)} (h : OwnC w B v l) : Code18 w v l := Rd.of_own h
theorem RdI.at {w : World} {b off n cap : Nat} {l : List Int} (h : RdI w (.slice (some ⟨b, off, none⟩) n cap) l) (k : Nat) (hk : k < l.length) : w.cell? ⟨b, off + k, none⟩ = some (.int .i64 (l.getD k 0)) := by
 have hn : l.length = n := by have h2 := h.2; obtain ⟨a, c, e, -⟩ := h2; simp only [Value.slice.injEq] at e; exact e.2.1.symm
 obtain ⟨b', off', e, -, hc⟩ := (show Rd w 1 (.slice (some ⟨b, off, none⟩) n cap) n (l.map (Value.int .i64)) by unfold RdI at h; rw [hn] at h; exact h).cells (by omega)
 simp only [Option.some.injEq, Addr.mk.injEq, and_true] at e
 obtain ⟨rfl, rfl⟩ := e
 have := hc k (by simpa using hk)
 rw [this]
 simp [List.getD, hk]
theorem OwnI.nil' (w : World) (B : Nat) : OwnI w B (.slice none 0 0) [] := ⟨by simp, Or.inl ⟨rfl, rfl⟩⟩
theorem inner_any (v vo : Value) (C : List (Int × Int)) (l : List Int) (w : World) (h : Code18 w v C) (ho : RdI w vo l) (hl : ∀ x ∈ l, 0 ≤ x ∧ x < C.length) :
  Calls Tryz.prog 75 #[v, vo] w fun x w' => ∃ y : Int, x = .returned (.int .i64 y) ∧ (y < 0 ↔ ∀ a ∈ l, opAtFl C a.toNat ≠ 29) ∧ w' = w := by
 obtain ⟨n, hn⟩ := ex C.length
 obtain ⟨m, hm⟩ := ex l.length
 obtain ⟨a, cap, rfl, hcap, hcap2, -⟩ := Rd.shape h
 obtain ⟨a', cap', rfl, hcap', hcap3, -⟩ := Rd.shape ho
 have hR := hidden h
 have hO := hidden ho
 rw [hn] at hR hcap hl ⊢
 rw [hm] at hO hcap' ⊢
 replace hn := hidden hn
 replace hm := hidden hm
 replace hl := hidden hl
 clear h ho
 have hmw : IntKind.i64.wrap ((m : Int) - 1) = (m : Int) - 1 := IntWalk.i64_in _ (by omega)
 go_enter Tryz.func75, Tryz.ntmps75
 go_wp2_with fail
 go_loopw [5] (fun ix wr => ∃ (k : Nat), k ≤ m ∧ ix = .int .i64 ((k : Int) - 1) ∧ Hid (∀ a ∈ l.drop k, opAtFl C a.toNat ≠ 29) ∧ wr = w) (fun ix _ => (intOf ix + 1).toNat)
 case atStart => exact ⟨m, Nat.le_refl _, rfl, hidden (by rw [List.drop_of_length_le (by rw [hm.out]; exact Nat.le_refl _)]; simp), rfl⟩
 case round =>
  obtain ⟨k, hk, rfl, hD, rfl⟩ := hrel
  cases k with
  | zero =>
   rw [show ((0 : Nat) : Int) - 1 = -1 from rfl]
   go_wp2_with fail
   go_ret
   exact ⟨-1, rfl, ⟨fun _ => by have := hD.out; rwa [List.drop_zero] at this, fun _ => by omega⟩, rfl⟩
  | succ j =>
   rw [show ((j + 1 : Nat) : Int) - 1 = (j : Int) by omega]
   obtain ⟨b1, o1, rfl, -, -⟩ := (show Rd wr 1 (.slice a' m cap') m (l.map (Value.int .i64)) by have := hO.out; unfold RdI at this; rw [hm.out] at this; exact this).cells (by omega)
   have hjl : j < l.length := by rw [hm.out]; omega
   have hx := RdI.at hO.out j hjl
   obtain ⟨x, hxe⟩ := ex (l.getD j 0)
   have hdr : l.drop j = x :: l.drop (j + 1) := by rw [List.drop_eq_getElem_cons hjl, ← hxe]; simp [List.getD, hjl]
   have hxm : x ∈ l := List.mem_of_mem_drop (by rw [hdr]; exact List.mem_cons_self)
   obtain ⟨hx0, hx1⟩ := hl.out x hxm
   rw [hxe] at hx
   obtain ⟨y, rfl⟩ : ∃ y : Nat, x = (y : Int) := ⟨x.toNat, by omega⟩
   obtain ⟨b, off, rfl, -, -⟩ := Rd.cells (cs := C.flatMap icell) (w := wr) (sz := 2) (by have := hR.out; unfold Code18 at this; rw [hn.out] at this; exact this) (show 0 < n by omega)
   obtain ⟨x0, -⟩ := code_at hR.out y (by rw [hn.out]; omega)
   obtain ⟨u, hu⟩ := ex (opAtFl C y)
   rw [hu] at x0
   replace hu := hidden hu
   replace hxe := hidden hxe
   replace hdr := hidden hdr
   replace hxm := hidden hxm
   have hjm : (j : Int) < (m : Int) := by omega
   have hjw : IntKind.i64.wrap ((j : Int) - 1) = (j : Int) - 1 := IntWalk.i64_in _ (by omega)
   by_cases h29 : u = 29
   ·subst h29
    go_wp2_with fail
    go_ret
    exact ⟨(y : Int), rfl, ⟨fun h => by omega, fun h => absurd hu.out (h _ hxm.out)⟩, rfl⟩
   ·have hq : (u == 29) = false := by simp; exact h29
    go_wp2_with fail
    go_roundw
    case rel => exact ⟨j, by omega, rfl, hidden (by rw [hdr.out]; intro a ha; rcases List.mem_cons.1 ha with rfl | ha; (rw [Int.toNat_natCast, hu.out]; exact h29); exact hD.out a ha), trivial⟩
    case measure => simp [intOf]
def opn : Stk → List Int
 | [] => []
 | (a, _) :: s => opn s ++ [(a : Int)]
def oth : Stk → List Int
 | [] => []
 | (_, y) :: s => oth s ++ [y]
theorem opn_len (st : Stk) : (opn st).length = st.length := by
 induction st with
 | nil => rfl
 | cons x s ih => simp [opn, ih]
theorem oth_len (st : Stk) : (oth st).length = st.length := by
 induction st with
 | nil => rfl
 | cons x s ih => simp [oth, ih]
theorem opn_mem {st : Stk} {z : Int} (h : z ∈ opn st) : ∃ x ∈ st, z = (x.1 : Int) := by
 induction st with
 | nil => simp [opn] at h
 | cons x s ih =>
  simp only [opn, List.mem_append, List.mem_singleton] at h
  rcases h with h | h
  ·obtain ⟨y, hy, e⟩ := ih h; exact ⟨y, List.mem_cons_of_mem _ hy, e⟩
  ·exact ⟨x, List.mem_cons_self, h⟩
theorem inLoop_no (C : List (Int × Int)) (st : Stk) : (∀ a ∈ opn st, opAtFl C a.toNat ≠ 29) ↔ inLoop C st = false := by
 induction st with
 | nil => simp [opn, inLoop]
 | cons x s ih =>
  obtain ⟨a, y⟩ := x
  simp only [opn, inLoop, List.mem_append, List.mem_singleton, Bool.or_eq_false_iff]
  rw [← ih]
  constructor
  ·intro h
   exact ⟨by have := h a (Or.inr rfl); simpa using this, fun z hz => h z (Or.inl hz)⟩
  ·rintro ⟨h1, h2⟩ z (hz | rfl)
   ·exact h2 z hz
   ·simpa using h1
structure PS (w wr : World) (vo vp vt : Value) (n i : Nat) (st : Stk) (out : List Int) : Prop where
 ext : Ext w wr
 o : OwnI wr w.heap.size vo out
 p : OwnI wr w.heap.size vp (opn st)
 t : OwnI wr w.heap.size vt (oth st)
 len : out.length = n
 d1 : ∀ k, vo.ownBlock = some k → vp.ownBlock ≠ some k
 d2 : ∀ k, vo.ownBlock = some k → vt.ownBlock ≠ some k
 d3 : ∀ k, vp.ownBlock = some k → vt.ownBlock ≠ some k
 dep : st.length ≤ 8
 bd : ∀ x ∈ st, x.1 < i ∧ -1 ≤ x.2 ∧ x.2 < i
theorem PS.start {w w1 : World} {vo : Value} {n : Nat} {out : List Int} (hX : Ext w w1) (ho : OwnI w1 w.heap.size vo out) (hl : out.length = n) : PS w w1 vo (.slice none 0 0) (.slice none 0 0) n 0 [] out :=
 ⟨hX, ho, OwnI.nil' _ _, OwnI.nil' _ _, hl, fun k _ e => by simp [Value.ownBlock] at e, fun k _ e => by simp [Value.ownBlock] at e, fun k _ e => by simp [Value.ownBlock] at e, by simp, by simp⟩
theorem PS.bump {w wr : World} {vo vp vt : Value} {n i : Nat} {st : Stk} {out : List Int} (h : PS w wr vo vp vt n i st out) : PS w wr vo vp vt n (i + 1) st out :=
 ⟨h.ext, h.o, h.p, h.t, h.len, h.d1, h.d2, h.d3, h.dep, fun x hx => by obtain ⟨a, b, c⟩ := h.bd x hx; exact ⟨by omega, b, by omega⟩⟩
theorem PS.move {w wr w1 : World} {vo vp vt : Value} {n i : Nat} {st : Stk} {out : List Int} (h : PS w wr vo vp vt n i st out) (c : Ext wr w1) : PS w w1 vo vp vt n i st out :=
 ⟨h.ext.trans c, own_ext h.o c, own_ext h.p c, own_ext h.t c, h.len, h.d1, h.d2, h.d3, h.dep, h.bd⟩
theorem PS.put {w wr : World} {vp vt : Value} {n i g m c : Nat} {st : Stk} {out : List Int} (h : PS w wr (.slice (some ⟨g, 0, none⟩) m c) vp vt n i st out) (j : Nat) (x : Int) : PS w (wr.setCell ⟨g, j, none⟩ (.int .i64 x)) (.slice (some ⟨g, 0, none⟩) m c) vp vt n i st (out.set j x) := by
 have hg := (own_lt h.o (x := g) rfl).1
 have c1 : Chg [g] wr (wr.setCell ⟨g, j, none⟩ (.int .i64 x)) := (Chg.refl _ wr).setCell (Or.inl (by simp)) _
 exact ⟨h.ext.setCell hg _, h.o.set j x, own_chg h.p c1 (fun k hk => by simp at hk; subst hk; exact h.d1 k rfl), own_chg h.t c1 (fun k hk => by simp at hk; subst hk; exact h.d2 k rfl), by rw [List.length_set]; exact h.len, h.d1, h.d2, h.d3, h.dep, h.bd⟩
theorem PS.top {w wr : World} {vo vp : Value} {n i g m c a : Nat} {y : Int} {s : Stk} {out : List Int} (h : PS w wr vo vp (.slice (some ⟨g, 0, none⟩) m c) n i ((a, y) :: s) out) (x : Int) (h1 : -1 ≤ x) (h2 : x < i) : PS w (wr.setCell ⟨g, s.length, none⟩ (.int .i64 x)) vo vp (.slice (some ⟨g, 0, none⟩) m c) n i ((a, x) :: s) out := by
 have hg := (own_lt h.t (x := g) rfl).1
 have c1 : Chg [g] wr (wr.setCell ⟨g, s.length, none⟩ (.int .i64 x)) := (Chg.refl _ wr).setCell (Or.inl (by simp)) _
 have ht := h.t.set s.length x
 rw [show (oth ((a, y) :: s)).set s.length x = oth ((a, x) :: s) by simp only [oth]; rw [List.set_append_right _ _ (by rw [oth_len]; exact Nat.le_refl _), oth_len, Nat.sub_self]; rfl] at ht
 exact ⟨h.ext.setCell hg _, own_chg h.o c1 (fun k hk e => by simp at hk; subst hk; exact h.d2 k e rfl), own_chg h.p c1 (fun k hk e => by simp at hk; subst hk; exact h.d3 k e rfl), ht, h.len, h.d1, h.d2, h.d3, by simpa using h.dep, fun z hz => by
  rcases List.mem_cons.1 hz with rfl | hz
  ·exact ⟨(h.bd _ List.mem_cons_self).1, h1, h2⟩
  ·exact h.bd z (List.mem_cons_of_mem _ hz)⟩
theorem PS.pop {w wr : World} {vo : Value} {n i gp gt m cp ct : Nat} {x : Nat × Int} {s : Stk} {out : List Int} (h : PS w wr vo (.slice (some ⟨gp, 0, none⟩) (m + 1) cp) (.slice (some ⟨gt, 0, none⟩) (m + 1) ct) n i (x :: s) out) (hm : s.length = m) : PS w wr vo (.slice (some ⟨gp, 0, none⟩) m cp) (.slice (some ⟨gt, 0, none⟩) m ct) n i s out := by
 obtain ⟨a, y⟩ := x
 have hp := h.p
 have ht := h.t
 unfold OwnI at hp ht
 simp only [opn, oth, List.length_append, List.map_append, List.map_cons, List.map_nil, List.length_singleton, opn_len, oth_len, hm] at hp ht
 refine ⟨h.ext, h.o, ?_, ?_, h.len, h.d1, h.d2, h.d3, by have := h.dep; simp at this; omega, fun z hz => h.bd z (List.mem_cons_of_mem _ hz)⟩
 ·unfold OwnI; rw [opn_len, hm]; exact own_pop hp
 ·unfold OwnI; rw [oth_len, hm]; exact own_pop ht
theorem PS.other {w W w4 : World} {vo vp vt : Value} {n i : Nat} {st : Stk} {out : List Int} {o1 : Obj} (h : PS w W vo vp vt n i st out) (g1 : (W.alloc o1).grownBy w4 vp.ownBlock) : OwnI w4 w.heap.size vt (oth st) :=
 own_chg h.t ((Chg.of_ext vp.ownBlock.toList ((Ext.refl W).alloc o1)).grown g1 (fun k hk => Or.inl (by simp [hk]))) (fun k hk e => by simp at hk; exact h.d3 k hk e)
theorem rd_one (W : World) (x : Int) : Rd (W.alloc (.cells #[.int .i64 x] 3)) 1 (.slice (some ⟨W.heap.size, 0, none⟩) 1 1) 1 [.int .i64 x] := by
 have hb := Blk.new W [.int .i64 x] 3
 refine ⟨rfl, _, _, rfl, Nat.le_refl _, by decide, by simp, fun _ => ⟨_, _, rfl, by simp, fun j hj => ?_⟩⟩
 match j, hj with
 | 0, _ => exact hb.cell 0 _ rfl
theorem PS.push {w W w4 w6 : World} {vo vp vt vp' vt' : Value} {n i : Nat} {st : Stk} {out : List Int} {o1 o2 : Obj} (h : PS w W vo vp vt n i st out) (h8 : st.length < 8)
  (hp : OwnI w4 w.heap.size vp' (opn st ++ [(i : Int)])) (g1 : (W.alloc o1).grownBy w4 vp.ownBlock) (a1 : vp'.ownBlock = vp.ownBlock ∨ vp'.ownBlock = some (W.alloc o1).heap.size)
  (ht : OwnI w6 w.heap.size vt' (oth st ++ [-1])) (g2 : (w4.alloc o2).grownBy w6 vt.ownBlock) (a2 : vt'.ownBlock = vt.ownBlock ∨ vt'.ownBlock = some (w4.alloc o2).heap.size) :
  PS w w6 vo vp' vt' n (i + 1) ((i, -1) :: st) out := by
 have c1 : Chg vp.ownBlock.toList W w4 := (Chg.of_ext _ ((Ext.refl W).alloc o1)).grown g1 (fun k hk => Or.inl (by simp [hk]))
 have c2 : Chg vt.ownBlock.toList w4 w6 := (Chg.of_ext _ ((Ext.refl w4).alloc o2)).grown g2 (fun k hk => Or.inl (by simp [hk]))
 have hs0 := h.ext.size
 have s1 := c1.size
 have s2 := c2.size
 have lp : ∀ k, vp.ownBlock = some k → w.heap.size ≤ k ∧ k < W.heap.size := fun k e => own_lt h.p e
 have lt : ∀ k, vt.ownBlock = some k → w.heap.size ≤ k ∧ k < W.heap.size := fun k e => own_lt h.t e
 have lo : ∀ k, vo.ownBlock = some k → w.heap.size ≤ k ∧ k < W.heap.size := fun k e => own_lt h.o e
 have lp' : ∀ k, vp'.ownBlock = some k → vp.ownBlock = some k ∨ W.heap.size < k + 0 := fun k e => by
  rcases a1 with a1 | a1
  ·exact Or.inl (by rw [← a1]; exact e)
  ·rw [a1] at e; simp at e; exact Or.inr (by omega)
 have hpl : ∀ k, vp'.ownBlock = some k → k < w4.heap.size := fun k e => (own_lt hp e).2
 have lt' : ∀ k, vt'.ownBlock = some k → vt.ownBlock = some k ∨ w4.heap.size ≤ k := fun k e => by
  rcases a2 with a2 | a2
  ·exact Or.inl (by rw [← a2]; exact e)
  ·rw [a2] at e; simp at e; exact Or.inr (by omega)
 have hto4 : OwnI w4 w.heap.size vt (oth st) := own_chg h.t c1 (fun k hk e => by simp at hk; exact h.d3 k hk e)
 have d3' : ∀ k, vp'.ownBlock = some k → vt.ownBlock ≠ some k := fun k e e2 => by
  rcases lp' k e with h1 | h1
  ·exact h.d3 k h1 e2
  ·have := (lt k e2).2; omega
 have X4 : Ext w w4 := ((Chg.of_ext [] (h.ext.alloc o1)).grown g1 (fun k hk => Or.inr (lp k hk).1)).ext
 have X6 : Ext w w6 := ((Chg.of_ext [] (X4.alloc o2)).grown g2 (fun k hk => Or.inr (lt k hk).1)).ext
 refine ⟨X6, own_chg (own_chg h.o c1 (fun k hk e => by simp at hk; exact h.d1 k e hk)) c2 (fun k hk e => by simp at hk; exact h.d2 k e hk), own_chg hp c2 (fun k hk e => by simp at hk; exact d3' k e hk), ht, h.len, fun k e e2 => ?_, fun k e e2 => ?_, fun k e e2 => ?_, by simp; omega, fun x hx => ?_⟩
 ·rcases lp' k e2 with h1 | h1
  ·exact h.d1 k e h1
  ·have := (lo k e).2; omega
 ·rcases lt' k e2 with h1 | h1
  ·exact h.d2 k e h1
  ·have := (lo k e).2; omega
 ·rcases lt' k e2 with h1 | h1
  ·exact d3' k e h1
  ·have := hpl k e; omega
 ·rcases List.mem_cons.1 hx with rfl | hx
  ·exact ⟨by simp, by simp, by simp; omega⟩
  ·obtain ⟨p, q, r⟩ := h.bd x hx; exact ⟨by omega, q, by omega⟩
namespace Sy
end Sy
structure Bd (C : List (Int × Int)) (d i : Nat) (out : T) (D : List (Int × Int)) : Prop where
 fl : flF C out = D
 ok : okF C d out
 last : out.lastOp = some (-1) → out.lastT = i
theorem okF_split (C : List (Int × Int)) (d : Nat) (a b : T) : okF C d (a.app b) ↔ okF C d a ∧ okF C d b := by
 induction a with
 | nil => simp [T.app, okF]
 | cons op f t b' o r _ _ ih =>
  simp only [T.app, okF, ih]
  exact ⟨fun ⟨h1, h2, h3, h4, h5, h6⟩ => ⟨⟨h1, h2, h3, h4, h5⟩, h6⟩, fun ⟨⟨h1, h2, h3, h4, h5⟩, h6⟩ => ⟨h1, h2, h3, h4, h5, h6⟩⟩
theorem cut_one (C : List (Int × Int)) (f t : Nat) (hf : f ≤ t) (ht : t < C.length) : (C.drop f).take (t + 1 - f) = (C.drop f).take (t - f) ++ [C.getD t (0, 0)] := by
 rw [show t + 1 - f = (t - f) + 1 by omega, List.take_succ_eq_append_getElem (by rw [List.length_drop]; omega)]
 congr 1
 simp [List.getElem_drop, List.getD, ht, show f + (t - f) = t by omega]
theorem Bd.add {C : List (Int × Int)} {d i : Nat} {out : T} {D : List (Int × Int)} (h : Bd C d i out D) (hi : i < C.length) : Bd C d (i + 1) (out.addP i) (D ++ [C.getD i (0, 0)]) := by
 by_cases hl : out.lastOp = some (-1)
 ·obtain ⟨l0, f, t, b, o, h1, h2⟩ := T.addP_old hl i
  have ht : t = i := by have := h.last hl; rw [h1, T.lastT_app] at this; exact this
  subst ht
  have hok := h.ok
  have hfl := h.fl
  rw [h1] at hok hfl
  rw [okF_split] at hok
  rw [flF_app] at hfl
  obtain ⟨k0, k1, k2, k3, k4, k5⟩ := hok
  obtain ⟨fn, rfl⟩ : ∃ fn : Nat, f = (fn : Int) := ⟨f.toNat, by omega⟩
  have hb : b = .nil ∧ o = .nil := by
   rcases k3.2 with ⟨-, hb, ho⟩ | ⟨hb, -⟩
   ·exact ⟨by cases b with | nil => rfl | cons => simp [T.len] at hb, by cases o with | nil => rfl | cons => simp [T.len] at ho⟩
   ·omega
  obtain ⟨rfl, rfl⟩ := hb
  have hft := k3.1
  simp only [Int.toNat_natCast] at hft
  refine ⟨?_, ?_, fun _ => by rw [h2, T.lastT_app]; omega⟩
  ·rw [h2, flF_app, ← hfl]
   simp only [flF, if_true, Int.toNat_natCast, List.append_nil, List.append_assoc]
   rw [show ((i : Int) + 1).toNat = i + 1 by omega, cut_one C fn i (by omega) hi]
  ·rw [h2, okF_split]
   refine ⟨k0, k1, by omega, ⟨⟨by omega, by omega⟩, Or.inl ⟨rfl, rfl, rfl⟩⟩, fun h => absurd rfl h, trivial⟩
 ·have h2 := T.addP_new hl i
  refine ⟨?_, ?_, fun _ => by rw [h2, T.lastT_app]; omega⟩
  ·rw [h2, flF_app, h.fl]
   simp only [flF, if_true, Int.toNat_natCast, List.append_nil]
   have := cut_one C i i (Nat.le_refl _) hi
   rw [show ((i : Int) + 1).toNat = i + 1 by omega, this]
   simp
  ·rw [h2, okF_split]
   exact ⟨h.ok, by omega, by omega, ⟨⟨by omega, by omega⟩, Or.inl ⟨rfl, rfl, rfl⟩⟩, fun h => absurd rfl h, trivial⟩
end Go.Proofs.YtgjjklajipekdaaGreat
