
import Derived.Test.YtgjjklajipekdaaGreatRows
import Derived.Test.YtgjjklajipekdaaGreatR
import Derived.Laws.OwnMore
import Derived.Test.YtgjjklajipekdaaGreatT
import Derived.WalkKit
import Derived.ProofKit
import Derived.Defers
import Derived.Recover
namespace Go.Proofs.YtgjjklajipekdaaGreat
set_option maxHeartbeats 16000000
set_option maxRecDepth 100000
open Go.RowKit
set_option linter.unusedVariables false
def bs (l : List Int) : List Value := l.map (Value.int .u8)
theorem bs_len (l : List Int) : (bs l).length = l.length := by simp [bs]
theorem bs_get (l : List Int) (i : Nat) (h : i < l.length) : (bs l).getD i undef = .int .u8 (l.getD i 0) := by simp [bs, List.getD, h]
theorem bs_app (l m : List Int) : bs (l ++ m) = bs l ++ bs m := by simp [bs]
theorem bs_set (l : List Int) (i : Nat) (x : Int) : (bs l).set i (.int .u8 x) = bs (l.set i x) := by simp [bs, List.map_set]
theorem u8info : (Tryz.prog.info? 5).map (fun i => (i.zero, i.size, i.bytes)) = some (some (.int .u8 0), 1, 1) := by kernel_rfl
def Own8 (w : World) (B : Nat) (v : Value) (l : List Int) : Prop := w.ownsRow B 5 1 v l.length (bs l)
theorem Own8.shape {w : World} {B : Nat} {v : Value} {l : List Int} (h : Own8 w B v l) :
  (v = .slice none 0 0 ∧ l = []) ∨ ∃ g cap, v = .slice (some ⟨g, 0, none⟩) l.length cap ∧ B ≤ g ∧ g < w.heap.size ∧ l.length ≤ cap ∧ cap ≤ 9223372036854775807 := by
 rcases h.2 with ⟨h1, h2⟩ | ⟨g, cap, cur, hv, hb, hg, h1, h2, _⟩
 ·exact Or.inl ⟨h1, List.eq_nil_of_length_eq_zero h2⟩
 ·exact Or.inr ⟨g, cap, hv, hb, (Array.getElem?_eq_some_iff.1 hg).1, h1, h2⟩
def Rd8 (w : World) (v : Value) (l : List Int) : Prop := Rd w 1 v l.length (bs l)
theorem Own8.rd {w : World} {B : Nat} {v : Value} {l : List Int} (h : Own8 w B v l) : Rd8 w v l := Rd.of_own h
theorem bs_one (l : List Int) : ∀ u ∈ bs l, u.oneCell' = true := by
 intro u hu
 simp [bs] at hu
 obtain ⟨a, -, rfl⟩ := hu
 rfl
theorem own_ne_blk {w : World} {B : Nat} {e t : TypeId} {sz n q : Nat} {v : Value} {xs cs : List Value} (h : w.ownsRow B e sz v n xs) (hB : Blk w q t cs) (hne : t ≠ e) : v.ownBlock ≠ some q := by
 intro hv
 rcases h.2 with ⟨rfl, _⟩ | ⟨g, cap, cur, rfl, _, hg, _⟩
 ·simp [Value.ownBlock] at hv
 ·simp [Value.ownBlock] at hv
  subst hv
  unfold Blk at hB
  rw [hB] at hg
  simp at hg
  exact hne hg.2
theorem Rd8.nil (w : World) : Rd8 w (.slice none 0 0) [] := Rd.nil w 1
theorem Rd8.at {w : World} {b off n cap : Nat} {l : List Int} (h : Rd8 w (.slice (some ⟨b, off, none⟩) n cap) l) (i : Nat) (hi : i < l.length) : w.cell? ⟨b, off + i, none⟩ = some (.int .u8 (l.getD i 0)) := by
 obtain ⟨_, a', cap', h2, _, _, _, h6⟩ := h
 simp only [Value.slice.injEq] at h2
 obtain ⟨rfl, -, rfl⟩ := h2
 obtain ⟨b', off', e, -, hc⟩ := h6 (by omega)
 simp only [Option.some.injEq, Addr.mk.injEq, and_true] at e
 obtain ⟨rfl, rfl⟩ := e
 rw [hc i (by rw [bs_len]; exact hi), bs_get l i hi]
theorem Rd8.some {w : World} {a : Option Addr} {n cap : Nat} {l : List Int} (h : Rd8 w (.slice a n cap) l) (hn : 0 < l.length) : ∃ b off, a = Option.some ⟨b, off, none⟩ ∧ b < w.heap.size := by
 obtain ⟨_, a', cap', h2, _, _, _, h6⟩ := h
 simp only [Value.slice.injEq] at h2
 obtain ⟨rfl, -, rfl⟩ := h2
 obtain ⟨b', off', e, hb, -⟩ := h6 hn
 exact ⟨b', off', e, hb⟩
theorem Own8.len {w : World} {B g n cap : Nat} {D : List Int} (h : Own8 w B (.slice (Option.some ⟨g, 0, none⟩) n cap) D) : n = D.length := by
 rcases h.2 with ⟨h1, _⟩ | ⟨g', cap', cur, hv, _⟩
 ·simp at h1
 ·simp only [Value.slice.injEq] at hv; exact hv.2.1
theorem Own8.frozen {w : World} {B g n cap : Nat} {D : List Int} (h : Own8 w B (.slice (Option.some ⟨g, 0, none⟩) n cap) D) (j : Nat) : w.frozen? ⟨g, j, none⟩ = false := by
 obtain rfl := h.len
 exact World.ownsRow.frozenAt h j
theorem Own8.set {w : World} {B g n cap : Nat} {D : List Int} (h : Own8 w B (.slice (Option.some ⟨g, 0, none⟩) n cap) D) (j : Nat) (y : Int) : Own8 (w.setCell ⟨g, j, none⟩ (.int .u8 y)) B (.slice (Option.some ⟨g, 0, none⟩) n cap) (D.set j y) := by
 obtain rfl := h.len
 have := (World.ownsRow.stored h j (.int .u8 y)).1
 unfold Own8
 rw [List.length_set, ← bs_set]
 exact this
def Fresh (w : World) (v : Value) : Prop := ∀ y, y < w.heap.size → v.ownBlock ≠ some y
theorem Fresh.nil (w : World) : Fresh w (.slice none 0 0) := fun y hy h => by simp [Value.ownBlock] at h
theorem Fresh.of_own {w w' : World} {e : TypeId} {sz n B : Nat} {v : Value} {cs : List Value} (h : w'.ownsRow B e sz v n cs) (hB : w.heap.size ≤ B) : Fresh w v := fun y hy hv => by
 have := (own_lt h hv).1
 omega
set_option linter.unusedVariables false
set_option linter.unusedSimpArgs false
attribute [local go_sem ↓] Go.wp_at_zero Go.wp_at_succ
def fail (p e : Int) : Ending := .panicked [{ v := .iface 159 (.agg #[.int .i64 p, .int .i64 e]), recovered := false }]
theorem demand_true (p e : Int) (w : World) : Calls Tryz.prog 89 #[.bool true, .int .i64 p, .int .i64 e] w fun x w' => x = .returned (.tuple #[]) ∧ w' = w := by
 go_enter Tryz.func89, Tryz.ntmps89
 go_wp2
 go_end0
 exact ⟨rfl, rfl⟩
theorem demand_false (p e : Int) (w : World) : Calls Tryz.prog 89 #[.bool false, .int .i64 p, .int .i64 e] w fun x w' => x = fail p e ∧ w' = w := by
 go_enter Tryz.func89, Tryz.ntmps89
 go_wp2
 exact ⟨rfl, rfl, rfl⟩
theorem opens_any (x : Int) (w : World) : Calls Tryz.prog 120 #[.int .i64 x] w fun y w' => y = .returned (.bool (decide (x = 27) || decide (x = 29))) ∧ w' = w := by
 go_enter Tryz.func120, Tryz.ntmps120
 by_cases h1 : x = 27 <;> by_cases h2 : x = 29 <;> (first | (exfalso; omega) | skip) <;> (go_wp2; go_ret; simp [h1, h2])
@[local go_sem] theorem asF (v : Value) (w : World) : (Instr.typeAssert (.iface 159 v) 20 159 true).run Tryz.prog w = .ok (.tuple #[v, .bool true]) w := by kernel_rfl
theorem wp_hide {P : Program} {c : Code} {a : Act} {w : World} {Q : Exit → Act → World → Prop} (h : ∀ K : Exit → Act → World → Prop, (∀ e a w, Q e a w → K e a w) → c.wp P K a w) : c.wp P Q a w := h Q (fun _ _ _ h => h)
theorem rescue_panic (p q : Nat) (a b x0 y0 : Int) (w : World) (hp : w.cell? ⟨p, 0, none⟩ = some (.int .i64 x0)) (hq : w.cell? ⟨q, 0, none⟩ = some (.int .i64 y0)) (fp : w.frozen? ⟨p, 0, none⟩ = false) (fq : w.frozen? ⟨q, 0, none⟩ = false) (hne : p ≠ q) :
  CallsD Tryz.prog 64 #[.pointer (some ⟨p, 0, none⟩), .pointer (some ⟨q, 0, none⟩)] (.panicking [{ v := .iface 159 (.agg #[.int .i64 a, .int .i64 b]), recovered := false }]) w fun e u' w' =>
   e = .returned (.tuple #[]) ∧ u' = .panicking [{ v := .iface 159 (.agg #[.int .i64 a, .int .i64 b]), recovered := true }] ∧ w'.cell? ⟨p, 0, none⟩ = some (.int .i64 a) ∧ w'.cell? ⟨q, 0, none⟩ = some (.int .i64 b) ∧ Chg [p, q] w w' := by
 have hpb := cell_lt hp
 have hqb := cell_lt hq
 refine callsD_of_wpS Tryz.func64 rfl fun c₀ cs hu => ?_
 apply wpS_seq
 apply wpS_region
 simp [wpOpsS, go_sem, recoverD, hu, Tryz.ntmps64, Exit.thenS]
 apply wpS_seq
 apply wpS_seq
 apply wpS_region
 simp [wpOpsS, go_sem, recoverD, Exit.thenS]
 refine wpS_cond (t := false) (by simp [Act.eval, Array.replicate]) ?_
 simp only [Bool.false_eq_true, if_false]
 refine wpS_of_wp (wp_skip ?_)
 simp only [Exit.thenS]
 apply wpS_seq
 apply wpS_region
 simp [wpOpsS, go_sem, Array.replicate]
 simp only [Exit.thenS]
 apply wpS_seq
 apply wpS_seq
 apply wpS_region
 simp [wpOpsS, go_sem]
 simp only [Exit.thenS]
 refine wpS_cond (t := false) (by simp [Act.eval]) ?_
 simp only [Bool.false_eq_true, if_false]
 refine wpS_of_wp (wp_skip ?_)
 simp only [Exit.thenS]
 refine wpS_of_wp (wp_hide fun KK hKK => ?_)
 have g1 : Ext w (w.alloc (Obj.cells #[Value.int IntKind.i64 a, Value.int IntKind.i64 b] 159)) := (Ext.refl w).alloc _
 have n0 : Blk (w.alloc (Obj.cells #[Value.int IntKind.i64 a, Value.int IntKind.i64 b] 159)) w.heap.size 159 [.int .i64 a, .int .i64 b] := Blk.new w [.int .i64 a, .int .i64 b] _
 have hp1 := g1.cell hp
 have hq1 := g1.cell hq
 have fp1 := (Chg.of_ext [] g1).frozen (by simp) hp fp
 have fq1 := (Chg.of_ext [] g1).frozen (by simp) hq fq
 obtain ⟨m0, m1⟩ := n0.c2
 obtain ⟨s, hs⟩ := ex w.heap.size
 rw [hs] at n0 m0 m1 hpb hqb ⊢
 generalize w.alloc (Obj.cells #[Value.int IntKind.i64 a, Value.int IntKind.i64 b] 159) = w1 at *
 have hps : ¬ p = s := by omega
 have hqs : ¬ q = s := by omega
 have hsp : ¬ s = p := by omega
 have hsq : ¬ s = q := by omega
 have hqp : ¬ q = p := fun h => hne h.symm
 clear hp hq fp fq n0
 go_region
 refine hKK _ _ _ ⟨rfl, _, rfl, .tuple #[], by simp [results, Tryz.f64, go_sem], rfl, rfl, ?_, ?_, ?_⟩
 ·rw [World.cell?_drew, World.cell?_setCell_far _ ⟨q, 0, none⟩ ⟨p, 0, none⟩ _ hqp]
  exact World.cell?_setCell_same' _ _ _ (by rw [hp1]; rfl)
 ·rw [World.cell?_drew]
  exact World.cell?_setCell_same' _ _ _ (by rw [World.cell?_setCell_far _ ⟨p, 0, none⟩ ⟨q, 0, none⟩ _ hne, hq1]; rfl)
 ·exact (((Chg.of_ext _ g1).setCell (by simp) _).setCell (by simp) _).drew
theorem rescue_idle (p q : Addr) (w : World) :
  CallsD Tryz.prog 64 #[.pointer (some p), .pointer (some q)] .returning w fun e u' w' => e = .returned (.tuple #[]) ∧ u' = .returning ∧ w' = w := by
 refine callsD_of_wpS Tryz.func64 rfl fun c₀ cs hu => ?_
 apply wpS_seq
 apply wpS_region
 simp [wpOpsS, go_sem, recoverD, hu, Tryz.ntmps64, Exit.thenS]
 apply wpS_seq
 apply wpS_seq
 apply wpS_region
 simp [wpOpsS, go_sem]
 simp only [Exit.thenS]
 refine wpS_cond (t := true) (by simp [Act.eval, Array.replicate]) ?_
 simp only [if_true]
 refine wpS_of_wp (wp_ret ?_)
 simp only [Exit.thenS]
 cases c₀
 simp_all [bodyPostS, results, Tryz.f64, go_sem]
set_option linter.unusedVariables false
set_option linter.unusedSimpArgs false
inductive T where
 | nil : T
 | cons (op f t : Int) (b o rest : T) : T
namespace T
def len : T → Nat
 | nil => 0
 | cons _ _ _ _ _ r => r.len + 1
def app : T → T → T
 | nil, s => s
 | cons op f t b o r, s => cons op f t b o (app r s)
def addP : T → Int → T
 | nil, i => cons (-1) i (i + 1) nil nil nil
 | cons op f t b o r, i => match r with
  | nil => if op = -1 then cons op f (t + 1) b o nil else cons op f t b o (cons (-1) i (i + 1) nil nil nil)
  | cons .. => cons op f t b o (addP r i)
theorem len_app (a b : T) : (a.app b).len = a.len + b.len := by
 induction a with
 | nil => simp [app, len]
 | cons _ _ _ _ _ _ _ _ ih => simp [app, len, ih]; omega
def lastOp : T → Option Int
 | nil => none
 | cons op _ _ _ _ r => match r with
  | nil => some op
  | cons .. => lastOp r
theorem addP_new {l : T} (h : l.lastOp ≠ some (-1)) (i : Int) : l.addP i = l.app (cons (-1) i (i + 1) nil nil nil) := by
 induction l with
 | nil => rfl
 | cons op f t b o r _ _ ih =>
  cases r with
  | nil => simp [lastOp] at h; simp [addP, app, h]
  | cons => simp only [lastOp] at h; rw [addP, ih h]; rfl
theorem addP_old {l : T} (h : l.lastOp = some (-1)) (i : Int) : ∃ (l0 : T) (f t : Int) (b o : T), l = l0.app (cons (-1) f t b o nil) ∧ l.addP i = l0.app (cons (-1) f (t + 1) b o nil) := by
 induction l with
 | nil => simp [lastOp] at h
 | cons op f t b o r _ _ ih =>
  cases r with
  | nil => simp [lastOp] at h; subst h; exact ⟨nil, f, t, b, o, rfl, by simp [addP, app]⟩
  | cons =>
   simp only [lastOp] at h
   obtain ⟨l0, f', t', b', o', e1, e2⟩ := ih h
   exact ⟨cons op f t b o l0, f', t', b', o', by rw [app, ← e1], by rw [addP, e2]; rfl⟩
end T
def opAtFl (C : List (Int × Int)) (i : Nat) : Int := (C.getD i (0, 0)).1
abbrev PRes := Except Nat (T × Nat × List Int × List Int)
def finF (C : List (Int × Int)) (o : Int) (i last k : Nat) (body oth : T) (P lv LV : List Int) : PRes :=
 if k < C.length ∧ opAtFl C k = 31 then
  .ok (.cons o i (k + 1) body oth .nil, k + 1, (if o = 29 then lv else []).foldl (fun P x => P.set x.toNat k) ((P.set last k).set k i), if o = 29 then LV else lv)
 else .error k
def blkF (C : List (Int × Int)) (g : Nat → Nat → Bool → T → List Int → List Int → PRes) (i d : Nat) (L : Bool) (P LV : List Int) : PRes :=
 if 8 < d then .error i else
 match g (i + 1) d (L || opAtFl C i == 29) .nil P (if opAtFl C i = 29 then [] else LV) with
 | .error e => .error e
 | .ok (body, j, P1, lv1) =>
  if opAtFl C i = 27 ∧ j < C.length ∧ opAtFl C j = 28 then
   match g (j + 1) d L .nil (P1.set i j) lv1 with
   | .error e => .error e
   | .ok (oth, k, P2, lv2) => finF C (opAtFl C i) i j k body oth P2 lv2 LV
  else finF C (opAtFl C i) i i j body .nil P1 lv1 LV
def lstF (C : List (Int × Int)) : Nat → Nat → Nat → Bool → T → List Int → List Int → PRes
 | 0, _, _, _, _, _, _ => .error 0
 | f + 1, i, d, L, out, P, lv =>
  if C.length ≤ i then .ok (out, i, P, lv) else
  if opAtFl C i = 28 ∨ opAtFl C i = 31 then .ok (out, i, P, lv) else
  if opAtFl C i = 27 ∨ opAtFl C i = 29 then
   match blkF C (lstF C f) i (d + 1) L P lv with
   | .error e => .error e
   | .ok (b, j, P', lv') => lstF C f j d L (out.app b) P' lv'
  else if opAtFl C i = 30 ∧ L = false then .error i
  else lstF C f (i + 1) d L (out.addP i) P (if opAtFl C i = 30 then lv ++ [(i : Int)] else lv)
def icell (x : Int × Int) : List Value := [.int .i64 x.1, .int .u32 x.2]
def Code18 (w : World) (v : Value) (C : List (Int × Int)) : Prop := Rd w 2 v C.length (C.flatMap icell)
def OwnI (w : World) (B : Nat) (v : Value) (l : List Int) : Prop := w.ownsRow B 3 1 v l.length (l.map (Value.int .i64))
def Fr (w : World) (Q : Nat → Prop) : T → List Value → Prop
 | .nil, cs => cs = []
 | .cons op f t b o r, cs => ∃ vb vo cr, cs = .int .i64 op :: .int .i64 f :: .int .i64 t :: vb :: vo :: cr ∧
   (∃ cb, Rd w 5 vb b.len cb ∧ (∀ k, 0 < b.len → vb.ownBlock = some k → Q k) ∧ Fr w Q b cb) ∧
   (∃ co, Rd w 5 vo o.len co ∧ (∀ k, 0 < o.len → vo.ownBlock = some k → Q k) ∧ Fr w Q o co) ∧ Fr w Q r cr
theorem Rd.blk_lt {w : World} {sz n : Nat} {v : Value} {cs : List Value} (h : Rd w sz v n cs) {k : Nat} (hn : 0 < n) (hk : v.ownBlock = some k) : k < w.heap.size := by
 apply Nat.lt_of_not_le
 intro hp
 exact h.off hp hn hk
theorem Fr.chg {w w' : World} {Q Q' : Nat → Prop} {S : List Nat} {t : T} {cs : List Value} (h : Fr w Q t cs) (c : Chg S w w') (hS : ∀ x ∈ S, ¬ Q x) (hQ : ∀ k, k < w.heap.size → Q k → Q' k) : Fr w' Q' t cs := by
 induction t generalizing cs with
 | nil => exact h
 | cons op f t b o r ihb iho ihr =>
  obtain ⟨vb, vo, cr, rfl, ⟨cb, h1, h2, h3⟩, ⟨co, h4, h5, h6⟩, h7⟩ := h
  exact ⟨vb, vo, cr, rfl, ⟨cb, h1.chg c (fun x hx hn e => hS x hx (h2 x hn e)), fun k hn e => hQ k (h1.blk_lt hn e) (h2 k hn e), ihb h3⟩,
   ⟨co, h4.chg c (fun x hx hn e => hS x hx (h5 x hn e)), fun k hn e => hQ k (h4.blk_lt hn e) (h5 k hn e), iho h6⟩, ihr h7⟩
theorem Fr.ext {w w' : World} {Q Q' : Nat → Prop} {t : T} {cs : List Value} (h : Fr w Q t cs) (c : Ext w w') (hQ : ∀ k, k < w.heap.size → Q k → Q' k) : Fr w' Q' t cs := h.chg (Chg.of_ext [] c) (by simp) hQ
theorem Fr.length {w : World} {Q : Nat → Prop} {t : T} {cs : List Value} (h : Fr w Q t cs) : cs.length = t.len * 5 := by
 induction t generalizing cs with
 | nil => cases h; rfl
 | cons op f t b o r ihb iho ihr =>
  obtain ⟨vb, vo, cr, rfl, -, -, h7⟩ := h
  simp [T.len, ihr h7]; omega
theorem Fr.app {w : World} {Q : Nat → Prop} {s t : T} {cs ds : List Value} (h : Fr w Q s cs) (k : Fr w Q t ds) : Fr w Q (s.app t) (cs ++ ds) := by
 induction s generalizing cs with
 | nil => cases h; exact k
 | cons op f t b o r ihb iho ihr =>
  obtain ⟨vb, vo, cr, rfl, h1, h2, h7⟩ := h
  exact ⟨vb, vo, cr ++ ds, rfl, h1, h2, ihr h7⟩
theorem Fr.split {w : World} {Q : Nat → Prop} {s t : T} {cs : List Value} (h : Fr w Q (s.app t) cs) : ∃ c1 c2, cs = c1 ++ c2 ∧ Fr w Q s c1 ∧ Fr w Q t c2 := by
 induction s generalizing cs with
 | nil => exact ⟨[], cs, rfl, rfl, h⟩
 | cons op f t b o r ihb iho ihr =>
  obtain ⟨vb, vo, cr, rfl, h1, h2, h7⟩ := h
  obtain ⟨c1, c2, rfl, h3, h4⟩ := ihr h7
  exact ⟨_ :: _ :: _ :: _ :: _ :: c1, c2, rfl, ⟨vb, vo, c1, rfl, h1, h2, h3⟩, h4⟩
abbrev LQ := Option (Nat × Value × List Int)
def lqS : LQ → List Nat
 | none => []
 | some (bl, vs, _) => bl :: vs.ownBlock.toList
def SS (br : Nat) (vp : Value) (q : LQ) : List Nat := br :: (vp.ownBlock.toList ++ lqS q)
def lqV : LQ → Value
 | none => .pointer none
 | some (bl, _, _) => .pointer (some ⟨bl, 0, none⟩)
def lqL : LQ → List Int
 | none => []
 | some (_, _, l) => l
def lqAt (w : World) (B : Nat) : LQ → Prop
 | none => True
 | some (bl, vs, l) => Blk w bl 78 [vs] ∧ OwnI w B vs l
structure St (w : World) (B br : Nat) (vc : Value) (C : List (Int × Int)) (vp : Value) (i : Nat) (P : List Int) (q : LQ) : Prop where
 rd : Blk w br 131 [vc, .int .i64 i, vp]
 code : Code18 w vc C
 off : 0 < C.length → ∀ k, vc.ownBlock = some k → k < B
 parts : OwnI w B vp P
 plen : P.length = C.length
 leaves : lqAt w B q
 nodup : (SS br vp q).Nodup
 above : ∀ x ∈ SS br vp q, B ≤ x
def LqTo (s : Nat) : LQ → LQ → Prop
 | none, q' => q' = none
 | some (bl, vs, _), q' => ∃ vs' l', q' = some (bl, vs', l') ∧ ∀ k, vs'.ownBlock = some k → vs.ownBlock = some k ∨ s ≤ k
set_option linter.unusedVariables false
theorem clone_any (v : Value) (l : List Int) (hl : l.length ≤ 900000) (w : World) (h : Rd8 w v l) :
  Calls Tryz.prog 87 #[v] w fun x w' => ∃ v', x = .returned v' ∧ Own8 w' w.heap.size v' l ∧ Ext w w' := by
 have q22 : ∀ (w : World) (a : Option Addr) (n c n' c' : Nat), (binOp .eql 46 (.slice a n c) (.slice none n' c')).run Tryz.prog w = .ok (.bool a.isNone) w := fun w a n c n' c' => Lib.run_eql_slice_nil w _ _ a n c n' c' Tryz.underlying46
 obtain ⟨a, cap, rfl, h1, h2, h3⟩ := Rd.shape h
 cases a with
 | none =>
  have hc := h3 rfl
  subst hc
  have hl0 : l.length = 0 := by omega
  rw [hl0]
  have he : Hid (l = []) := List.eq_nil_of_length_eq_zero hl0
  clear hl0 h1 hl h
  go_enter Tryz.func87, Tryz.ntmps87
  go_wp2_with fail
  go_ret
  exact ⟨_, rfl, by rw [he.out]; exact World.ownsRow_nil _ _ _ _, Ext.refl _⟩
 | some ad =>
  obtain ⟨i0, hi, hz0, hz1, hz2⟩ := info_parts u8info
  have hz : World.ownsRow (w.alloc (.cells #[] 5)) w.heap.size 5 1 (.slice (some ⟨w.heap.size, 0, none⟩) 0 0) 0 [] := World.ownsRow_made w #[] 0 (Nat.le_refl _) (Nat.zero_le _) rfl
  have hr := Rd.alloc h (.cells #[] 5)
  have H := hidden h
  clear h
  go_enter Tryz.func87, Tryz.ntmps87
  go_wp2_with (at_builtin; refine wpList_append_own _ rfl _ _ 46 rfl w.heap.size 5 i0 (.int .u8 0) 1 1 Tryz.underlying46 hi hz0 hz1 hz2 rfl (by decide) _ 0 [] rfl hz ad l.length cap (bs l) rfl (by simp [bs]) hr.news (bs_one l) (by unfold maxLen; omega) (by omega) (by simp) ?_; intro v1 w1 hown hgrow hnil)
  go_ret
  refine ⟨v1, rfl, ?_, ?_⟩
  ·rw [Nat.zero_add, List.nil_append] at hown
   exact hown
  ·exact (((Chg.refl [] w).alloc _).grown hgrow (fun k hk => Or.inr (by injection hk with hk; exact Nat.le_of_eq hk))).ext
end Go.Proofs.YtgjjklajipekdaaGreat
