/- Layer 18: the plain parser, and what lies in memory. -/
import Derived.Test.YtcnbljohhajkhaaVa
namespace Go.Proofs.Ytcnbljohhajkhaa
open Go.RowKit
set_option linter.unusedVariables false
set_option linter.unusedSimpArgs false

/-- A list of blocks: operation, from, to, body, other; and the blocks behind it. -/
inductive T where
  | nil : T
  | cons (op f t : Int) (b o rest : T) : T
namespace T
def len : T → Nat
  | nil => 0
  | cons _ _ _ _ _ r => r.len + 1
def app : T → T → T
  | nil, s => s
  | cons op f t b o r, s => cons op f t b o (app r s)
/-- The list, and one more instruction at i. -/
def addP : T → Int → T
  | nil, i => cons (-1) i (i + 1) nil nil nil
  | cons op f t b o r, i => match r with
    | nil => if op = -1 then cons op f (t + 1) b o nil else cons op f t b o (cons (-1) i (i + 1) nil nil nil)
    | cons .. => cons op f t b o (addP r i)
theorem app_nil (l : T) : l.app nil = l := by
  induction l with
  | nil => rfl
  | cons _ _ _ _ _ _ _ _ ih => simp [app, ih]
theorem app_assoc (a b c : T) : (a.app b).app c = a.app (b.app c) := by
  induction a with
  | nil => rfl
  | cons _ _ _ _ _ _ _ _ ih => simp [app, ih]
theorem len_app (a b : T) : (a.app b).len = a.len + b.len := by
  induction a with
  | nil => simp [app, len]
  | cons _ _ _ _ _ _ _ _ ih => simp [app, len, ih]; omega
/-- The last block's operation. -/
def lastOp : T → Option Int
  | nil => none
  | cons op _ _ _ _ r => match r with
    | nil => some op
    | cons .. => lastOp r
theorem addP_new {l : T} (h : l.lastOp ≠ some (-1)) (i : Int) : l.addP i = l.app (cons (-1) i (i + 1) nil nil nil) := by
  induction l with
  | nil => rfl
  | cons op f t b o r _ _ ih =>
    cases r with
    | nil => simp [lastOp] at h; simp [addP, app, h]
    | cons => simp only [lastOp] at h; rw [addP, ih h]; rfl
theorem addP_old {l : T} (h : l.lastOp = some (-1)) (i : Int) : ∃ (l0 : T) (f t : Int) (b o : T), l = l0.app (cons (-1) f t b o nil) ∧ l.addP i = l0.app (cons (-1) f (t + 1) b o nil) := by
  induction l with
  | nil => simp [lastOp] at h
  | cons op f t b o r _ _ ih =>
    cases r with
    | nil => simp [lastOp] at h; subst h; exact ⟨nil, f, t, b, o, rfl, by simp [addP, app]⟩
    | cons =>
      simp only [lastOp] at h
      obtain ⟨l0, f', t', b', o', e1, e2⟩ := ih h
      exact ⟨cons op f t b o l0, f', t', b', o', by rw [app, ← e1], by rw [addP, e2]; rfl⟩
end T

/-- The operation of an instruction. -/
def opAt (C : List (Int × Int)) (i : Nat) : Int := (C.getD i (0, 0)).1
abbrev PRes := Except Nat (T × Nat × List Int × List Int)
def finF (C : List (Int × Int)) (o : Int) (i last k : Nat) (body oth : T) (P lv LV : List Int) : PRes :=
  if k < C.length ∧ opAt C k = 31 then
    .ok (.cons o i (k + 1) body oth .nil, k + 1, (if o = 29 then lv else []).foldl (fun P x => P.set x.toNat k) ((P.set last k).set k i), if o = 29 then LV else lv)
  else .error k
def blkF (C : List (Int × Int)) (g : Nat → Nat → Bool → T → List Int → List Int → PRes) (i d : Nat) (L : Bool) (P LV : List Int) : PRes :=
  if 8 < d then .error i else
  match g (i + 1) d (L || opAt C i == 29) .nil P (if opAt C i = 29 then [] else LV) with
  | .error e => .error e
  | .ok (body, j, P1, lv1) =>
    if opAt C i = 27 ∧ j < C.length ∧ opAt C j = 28 then
      match g (j + 1) d L .nil (P1.set i j) lv1 with
      | .error e => .error e
      | .ok (oth, k, P2, lv2) => finF C (opAt C i) i j k body oth P2 lv2 LV
    else finF C (opAt C i) i i j body .nil P1 lv1 LV
def lstF (C : List (Int × Int)) : Nat → Nat → Nat → Bool → T → List Int → List Int → PRes
  | 0, _, _, _, _, _, _ => .error 0
  | f + 1, i, d, L, out, P, lv =>
    if C.length ≤ i then .ok (out, i, P, lv) else
    if opAt C i = 28 ∨ opAt C i = 31 then .ok (out, i, P, lv) else
    if opAt C i = 27 ∨ opAt C i = 29 then
      match blkF C (lstF C f) i (d + 1) L P lv with
      | .error e => .error e
      | .ok (b, j, P', lv') => lstF C f j d L (out.app b) P' lv'
    else if opAt C i = 30 ∧ L = false then .error i
    else lstF C f (i + 1) d L (out.addP i) P (if opAt C i = 30 then lv ++ [(i : Int)] else lv)

/-! Memory. -/
def icell (x : Int × Int) : List Value := [.int .i64 x.1, .int .u32 x.2]
def Code18 (w : World) (v : Value) (C : List (Int × Int)) : Prop := Rd w 2 v C.length (C.flatMap icell)
def OwnI (w : World) (B : Nat) (v : Value) (l : List Int) : Prop := w.ownsRow B 3 1 v l.length (l.map (Value.int .i64))
/-- A list of blocks lies in cells; what hangs below lies in blocks of which Q speaks. -/
def Fr (w : World) (Q : Nat → Prop) : T → List Value → Prop
  | .nil, cs => cs = []
  | .cons op f t b o r, cs => ∃ vb vo cr, cs = .int .i64 op :: .int .i64 f :: .int .i64 t :: vb :: vo :: cr ∧
      (∃ cb, Rd w 5 vb b.len cb ∧ (∀ k, 0 < b.len → vb.ownBlock = some k → Q k) ∧ Fr w Q b cb) ∧
      (∃ co, Rd w 5 vo o.len co ∧ (∀ k, 0 < o.len → vo.ownBlock = some k → Q k) ∧ Fr w Q o co) ∧ Fr w Q r cr
theorem Rd.blk_lt {w : World} {sz n : Nat} {v : Value} {cs : List Value} (h : Rd w sz v n cs) {k : Nat} (hn : 0 < n) (hk : v.ownBlock = some k) : k < w.heap.size := by
  apply Nat.lt_of_not_le
  intro hp
  exact h.off hp hn hk
theorem Fr.chg {w w' : World} {Q Q' : Nat → Prop} {S : List Nat} {t : T} {cs : List Value} (h : Fr w Q t cs) (c : Chg S w w') (hS : ∀ x ∈ S, ¬ Q x) (hQ : ∀ k, k < w.heap.size → Q k → Q' k) : Fr w' Q' t cs := by
  induction t generalizing cs with
  | nil => exact h
  | cons op f t b o r ihb iho ihr =>
    obtain ⟨vb, vo, cr, rfl, ⟨cb, h1, h2, h3⟩, ⟨co, h4, h5, h6⟩, h7⟩ := h
    exact ⟨vb, vo, cr, rfl, ⟨cb, h1.chg c (fun x hx hn e => hS x hx (h2 x hn e)), fun k hn e => hQ k (h1.blk_lt hn e) (h2 k hn e), ihb h3⟩,
      ⟨co, h4.chg c (fun x hx hn e => hS x hx (h5 x hn e)), fun k hn e => hQ k (h4.blk_lt hn e) (h5 k hn e), iho h6⟩, ihr h7⟩
theorem Fr.ext {w w' : World} {Q Q' : Nat → Prop} {t : T} {cs : List Value} (h : Fr w Q t cs) (c : Ext w w') (hQ : ∀ k, k < w.heap.size → Q k → Q' k) : Fr w' Q' t cs := h.chg (Chg.of_ext [] c) (by simp) hQ
theorem Fr.length {w : World} {Q : Nat → Prop} {t : T} {cs : List Value} (h : Fr w Q t cs) : cs.length = t.len * 5 := by
  induction t generalizing cs with
  | nil => cases h; rfl
  | cons op f t b o r ihb iho ihr =>
    obtain ⟨vb, vo, cr, rfl, -, -, h7⟩ := h
    simp [T.len, ihr h7]; omega
theorem Fr.app {w : World} {Q : Nat → Prop} {s t : T} {cs ds : List Value} (h : Fr w Q s cs) (k : Fr w Q t ds) : Fr w Q (s.app t) (cs ++ ds) := by
  induction s generalizing cs with
  | nil => cases h; exact k
  | cons op f t b o r ihb iho ihr =>
    obtain ⟨vb, vo, cr, rfl, h1, h2, h7⟩ := h
    exact ⟨vb, vo, cr ++ ds, rfl, h1, h2, ihr h7⟩
theorem Fr.split {w : World} {Q : Nat → Prop} {s t : T} {cs : List Value} (h : Fr w Q (s.app t) cs) : ∃ c1 c2, cs = c1 ++ c2 ∧ Fr w Q s c1 ∧ Fr w Q t c2 := by
  induction s generalizing cs with
  | nil => exact ⟨[], cs, rfl, rfl, h⟩
  | cons op f t b o r ihb iho ihr =>
    obtain ⟨vb, vo, cr, rfl, h1, h2, h7⟩ := h
    obtain ⟨c1, c2, rfl, h3, h4⟩ := ihr h7
    exact ⟨_ :: _ :: _ :: _ :: _ :: c1, c2, rfl, ⟨vb, vo, c1, rfl, h1, h2, h3⟩, h4⟩

/-- The blocks that reading code may write: the reader's, the partners', the leaves'. -/
abbrev LQ := Option (Nat × Value × List Int)
def lqS : LQ → List Nat
  | none => []
  | some (bl, vs, _) => bl :: vs.ownBlock.toList
def SS (br : Nat) (vp : Value) (q : LQ) : List Nat := br :: (vp.ownBlock.toList ++ lqS q)
def lqV : LQ → Value
  | none => .pointer none
  | some (bl, _, _) => .pointer (some ⟨bl, 0, none⟩)
def lqL : LQ → List Int
  | none => []
  | some (_, _, l) => l
def lqAt (w : World) (B : Nat) : LQ → Prop
  | none => True
  | some (bl, vs, l) => Blk w bl 32 [vs] ∧ OwnI w B vs l
structure St (w : World) (B br : Nat) (vc : Value) (C : List (Int × Int)) (vp : Value) (i : Nat) (P : List Int) (q : LQ) : Prop where
  rd : Blk w br 64 [vc, .int .i64 i, vp]
  code : Code18 w vc C
  off : 0 < C.length → ∀ k, vc.ownBlock = some k → k < B
  parts : OwnI w B vp P
  plen : P.length = C.length
  leaves : lqAt w B q
  nodup : (SS br vp q).Nodup
  above : ∀ x ∈ SS br vp q, B ≤ x
/-- The leaves' list went on. -/
def LqTo (s : Nat) : LQ → LQ → Prop
  | none, q' => q' = none
  | some (bl, vs, _), q' => ∃ vs' l', q' = some (bl, vs', l') ∧ ∀ k, vs'.ownBlock = some k → vs.ownBlock = some k ∨ s ≤ k
end Go.Proofs.Ytcnbljohhajkhaa
