
import Derived.Test.YtgjjklajipekdaaGreatB8c
import Derived.Deep.LoopGhost
import Derived.Deep.Cut
namespace Go.Proofs.YtgjjklajipekdaaGreat
open Go.RowKit
set_option linter.unusedVariables false
set_option linter.unusedSimpArgs false
attribute [local go_sem ↓] Go.wp_at_zero Go.wp_at_succ
def LstPost (w : World) (B br : Nat) (vc : Value) (C : List (Int × Int)) (vp : Value) (q : LQ) (r : PRes) (x : Ending) (w' : World) : Prop :=
 match r with
 | .error e => x = fail e 15 ∧ Chg (SS br vp q) w w'
 | .ok (t, j, P', lv') => ∃ v cs q', x = .returned v ∧ w'.ownsRow w.heap.size 178 5 v t.len cs ∧ (∀ k ∈ SS br vp q', v.ownBlock ≠ some k) ∧
   Fr w' (fun k => w.heap.size ≤ k ∧ k ∉ SS br vp q' ∧ v.ownBlock ≠ some k) t cs ∧ St w' B br vc C vp j P' q' ∧ lqL q' = lv' ∧ LqTo w.heap.size q q' ∧ Chg (SS br vp q) w w'
def BlkPost (w : World) (B br : Nat) (vc : Value) (C : List (Int × Int)) (vp : Value) (q : LQ) (r : PRes) (x : Ending) (w' : World) : Prop :=
 match r with
 | .error e => x = fail e 15 ∧ Chg (SS br vp q) w w'
 | .ok (t, j, P', lv') => ∃ op f u vb vo q', x = .returned (.agg #[.int .i64 op, .int .i64 f, .int .i64 u, vb, vo]) ∧ t.len = 1 ∧
   Fr w' (fun k => w.heap.size ≤ k ∧ k ∉ SS br vp q') t [.int .i64 op, .int .i64 f, .int .i64 u, vb, vo] ∧ St w' B br vc C vp j P' q' ∧ lqL q' = lv' ∧ LqTo w.heap.size q q' ∧ Chg (SS br vp q) w w'
def ListOK (C : List (Int × Int)) (f : Nat) : Prop := ∀ (w : World) (B br : Nat) (vc vp : Value) (i d : Nat) (q : LQ) (P : List Int), St w B br vc C vp i P q → B ≤ w.heap.size → C.length ≤ 1024 → i ≤ C.length → C.length - i < f → d ≤ 8 → (lqL q).length ≤ i →
 Calls Tryz.prog 91 #[.pointer (some ⟨br, 0, none⟩), .int .i64 d, lqV q] w (LstPost w B br vc C vp q (lstF C f i d q.isSome .nil P (lqL q)))
def BlkOK (C : List (Int × Int)) (f : Nat) : Prop := ∀ (w : World) (B br : Nat) (vc vp : Value) (i d : Nat) (q : LQ) (P : List Int), St w B br vc C vp i P q → B ≤ w.heap.size → C.length ≤ 1024 → i < C.length → C.length - i ≤ f → d ≤ 9 → (lqL q).length ≤ i →
 Calls Tryz.prog 121 #[.pointer (some ⟨br, 0, none⟩), .int .i64 d, lqV q] w (BlkPost w B br vc C vp q (blkF C (lstF C f) i d q.isSome P (lqL q)))
theorem lst_ge (C : List (Int × Int)) (f : Nat) : ∀ (i d : Nat) (L : Bool) (out : T) (P lv : List Int) (r : T × Nat × List Int × List Int), i ≤ C.length → lstF C f i d L out P lv = .ok r → i ≤ r.2.1 ∧ r.2.1 ≤ C.length ∧ (lv.length ≤ i → r.2.2.2.length ≤ r.2.1) := by
 induction f with
 | zero => intro i d L out P lv r hi h; simp [lstF] at h
 | succ f ih =>
  intro i d L out P lv r hi h
  unfold lstF at h
  split at h
  ·cases h; exact ⟨Nat.le_refl _, hi, fun h => h⟩
  next hlt =>
  split at h
  ·cases h; exact ⟨Nat.le_refl _, hi, fun h => h⟩
  split at h
  ·split at h
   ·cases h
   next b j P' lv' hb =>
   have hj : i + 1 ≤ j ∧ j ≤ C.length ∧ (lv.length ≤ i → lv'.length ≤ j) := by
    unfold blkF at hb
    split at hb
    ·cases hb
    split at hb
    ·cases hb
    next body j1 P1 lv1 h1 =>
    have a1 := ih _ _ _ _ _ _ _ (by omega) h1
    simp only at a1
    have fin : ∀ last k oth P l LV, i + 1 ≤ k → (LV.length ≤ i → opAtFl C i ≠ 29 → l.length ≤ k) → finF C (opAtFl C i) i last k body oth P l LV = .ok (b, j, P', lv') → i + 1 ≤ j ∧ j ≤ C.length ∧ (LV.length ≤ i → lv'.length ≤ j) := by
     intro last k oth P l LV hk hl h2
     unfold finF at h2
     split at h2
     next hc =>
      simp only [Except.ok.injEq, Prod.mk.injEq] at h2
      obtain ⟨-, rfl, -, rfl⟩ := h2
      refine ⟨by omega, hc.1, fun h => ?_⟩
      split
      ·omega
      next h29 => have := hl h h29; omega
     ·cases h2
    split at hb
    next hc =>
     split at hb
     ·cases hb
     next oth k P2 lv2 h2 =>
     have a2 := ih _ _ _ _ _ _ _ (by omega) h2
     simp only at a2
     exact fin _ _ _ _ _ _ (by omega) (fun h h29 => a2.2.2 (by have := a1.2.2 (by rw [if_neg h29]; omega); omega)) hb
    ·exact fin _ _ _ _ _ _ (by omega) (fun h h29 => a1.2.2 (by rw [if_neg h29]; omega)) hb
   have a2 := ih _ _ _ _ _ _ _ hj.2.1 h
   exact ⟨by omega, a2.2.1, fun h => a2.2.2 (hj.2.2 h)⟩
  split at h
  ·cases h
  ·have a2 := ih _ _ _ _ _ _ _ (by omega) h
   refine ⟨by omega, a2.2.1, fun h => a2.2.2 ?_⟩
   split
   ·simp; omega
   ·omega
theorem mem_lq {s : Nat} {q q' : LQ} (h : LqTo s q q') {k : Nat} (hk : k ∈ lqS q') : k ∈ lqS q ∨ s ≤ k := by
 match q, h with
 | none, h => cases h; simp [lqS] at hk
 | some (bl, vs, l), h =>
  obtain ⟨vs', l', rfl, h2⟩ := h
  simp only [lqS, List.mem_cons, Option.mem_toList] at hk ⊢
  rcases hk with rfl | hk
  ·exact Or.inl (Or.inl rfl)
  ·rcases h2 k hk with h | h
   ·exact Or.inl (Or.inr h)
   ·exact Or.inr h
theorem mem_ss {s br : Nat} {vp : Value} {q q' : LQ} (h : LqTo s q q') {k : Nat} (hk : k ∈ SS br vp q') : k ∈ SS br vp q ∨ s ≤ k := by
 simp only [SS, List.mem_cons, List.mem_append] at hk ⊢
 rcases hk with h1 | h1 | h1
 ·exact Or.inl (Or.inl h1)
 ·exact Or.inl (Or.inr (Or.inl h1))
 ·rcases mem_lq h h1 with h2 | h2
  ·exact Or.inl (Or.inr (Or.inr h2))
  ·exact Or.inr h2
theorem LqTo.trans {s s' : Nat} {q q' q'' : LQ} (h : LqTo s q q') (k : LqTo s' q' q'') (hs : s ≤ s') : LqTo s q q'' := by
 match q, h with
 | none, h => cases h; exact k
 | some (bl, vs, l), h =>
  obtain ⟨vs', l', rfl, h2⟩ := h
  obtain ⟨vs'', l'', rfl, k⟩ := k
  refine ⟨vs'', l'', rfl, fun j hj => ?_⟩
  rcases k j hj with h1 | h1
  ·exact h2 j h1
  ·exact Or.inr (Nat.le_trans hs h1)
theorem LqTo.refl (s : Nat) (q : LQ) : LqTo s q q := by
 match q with
 | none => rfl
 | some (bl, vs, l) => exact ⟨vs, l, rfl, fun k hk => Or.inl hk⟩
theorem LqTo.same {s : Nat} {q q' : LQ} (h : LqTo s q q') : lqV q' = lqV q ∧ q'.isSome = q.isSome := by
 match q, h with
 | none, h => cases h; exact ⟨rfl, rfl⟩
 | some (bl, vs, l), h => obtain ⟨vs', l', rfl, h⟩ := h; exact ⟨rfl, rfl⟩
theorem SS_lt {w : World} {B br : Nat} {vc vp : Value} {C : List (Int × Int)} {i : Nat} {P : List Int} {q : LQ} (h : St w B br vc C vp i P q) {k : Nat} (hk : k ∈ SS br vp q) : k < w.heap.size := by
 simp only [SS, List.mem_cons, List.mem_append, Option.mem_toList] at hk
 rcases hk with rfl | h1 | h1
 ·exact h.rd.lt
 ·exact (own_lt h.parts h1).2
 ·match q, h.leaves, h1 with
  | none, _, h1 => simp [lqS] at h1
  | some (bl, vs, l), hl, h1 =>
   simp only [lqS, List.mem_cons, Option.mem_toList] at h1
   rcases h1 with rfl | h1
   ·exact hl.1.lt
   ·exact (own_lt hl.2 h1).2
structure LS (w wr : World) (B br : Nat) (vc : Value) (C : List (Int × Int)) (vp : Value) (q q' : LQ) (v : Value) (m : Nat) (out : T) (cs : List Value) (i : Nat) (P : List Int) : Prop where
 own : wr.ownsRow w.heap.size 178 5 v m cs
 off : ∀ k ∈ SS br vp q', v.ownBlock ≠ some k
 fr : Fr wr (fun k => w.heap.size ≤ k ∧ k ∉ SS br vp q' ∧ v.ownBlock ≠ some k) out cs
 st : St wr B br vc C vp i P q'
 to : LqTo w.heap.size q q'
 chg : Chg (SS br vp q) w wr
 len : out.len = m
theorem LS.start {w : World} {B br : Nat} {vc : Value} {C : List (Int × Int)} {vp : Value} {q : LQ} {i : Nat} {P : List Int} (h : St w B br vc C vp i P q) : LS w w B br vc C vp q q (.slice none 0 0) 0 .nil [] i P :=
 ⟨World.ownsRow_nil _ _ _ _, fun k _ e => by simp [Value.ownBlock] at e, rfl, h, LqTo.refl _ _, Chg.refl _ _, rfl⟩
theorem LS.step {w wr w1 : World} {B br : Nat} {vc : Value} {C : List (Int × Int)} {vp : Value} {q q' q'' : LQ} {v : Value} {m : Nat} {out : T} {cs : List Value} {i i1 : Nat} {P P1 : List Int} {S : List Nat}
  (h : LS w wr B br vc C vp q q' v m out cs i P) (c : Chg S wr w1) (hS : ∀ x ∈ S, x ∈ SS br vp q' ∨ wr.heap.size ≤ x) (k : St w1 B br vc C vp i1 P1 q'') (hq : LqTo wr.heap.size q' q'') : LS w w1 B br vc C vp q q'' v m out cs i1 P1 := by
 have hm : ∀ x ∈ S, v.ownBlock ≠ some x := fun x hx e => by
  rcases hS x hx with h1 | h1
  ·exact h.off x h1 e
  ·have := (own_lt h.own e).2; omega
 have hn : ∀ k, k < wr.heap.size → k ∉ SS br vp q' → k ∉ SS br vp q'' := fun k hk hk' hm => by
  rcases mem_ss hq hm with h1 | h1
  ·exact hk' h1
  ·omega
 refine ⟨own_chg h.own c hm, fun x hx e => ?_, h.fr.chg (S := S.filter (· < wr.heap.size)) ⟨c.os, c.tape, c.output, c.size, fun j hj hs => c.block j hj (fun hm => hs (by simp [hm, hj]))⟩ (fun x hx hQ => ?_) (fun x hx hQ => ⟨hQ.1, hn x hx hQ.2.1, hQ.2.2⟩), k, h.to.trans hq h.chg.size, h.chg.trans c (fun x hx => ?_), h.len⟩
 ·have hl := (own_lt h.own e).2
  rcases mem_ss hq hx with h1 | h1
  ·exact h.off x h1 e
  ·omega
 ·simp only [List.mem_filter, decide_eq_true_eq] at hx
  rcases hS x hx.1 with h1 | h1
  ·exact hQ.2.1 h1
  ·omega
 ·rcases hS x hx with h1 | h1
  ·exact mem_ss h.to h1
  ·exact Or.inr (Nat.le_trans h.chg.size h1)
theorem St.move {w w1 : World} {B br : Nat} {vc : Value} {C : List (Int × Int)} {vp : Value} {q : LQ} {i : Nat} {P : List Int} {S : List Nat} (h : St w B br vc C vp i P q) (c : Chg S w w1) (hS : ∀ x ∈ S, x ∉ SS br vp q) (hB : ∀ x ∈ S, B ≤ x) : St w1 B br vc C vp i P q := by
 refine ⟨h.rd.chg c (fun hm => hS br hm (by simp [SS])), h.code.chg c (fun x hx hn e => by have := h.off hn x e; have := hB x hx; omega), h.off, own_chg h.parts c (fun x hx e => hS x hx (by simp [SS, e])), h.plen, ?_, h.nodup, h.above⟩
 match q, h.leaves, hS with
 | none, _, _ => trivial
 | some (bl, vs, l), hl, hS => exact ⟨hl.1.chg c (fun hm => hS bl hm (by simp [SS, lqS])), own_chg hl.2 c (fun x hx e => hS x hx (by simp [SS, lqS, e]))⟩
theorem St.ext {w w1 : World} {B br : Nat} {vc : Value} {C : List (Int × Int)} {vp : Value} {q : LQ} {i : Nat} {P : List Int} (h : St w B br vc C vp i P q) (c : Ext w w1) : St w1 B br vc C vp i P q := h.move (Chg.of_ext [] c) (by simp) (by simp)
theorem St.bump {w : World} {B br : Nat} {vc : Value} {C : List (Int × Int)} {vp : Value} {q : LQ} {i : Nat} {P : List Int} (h : St w B br vc C vp i P q) (j : Nat) : St (w.setCell ⟨br, 1, none⟩ (.int .i64 j)) B br vc C vp j P q := by
 have c : Chg [br] w (w.setCell ⟨br, 1, none⟩ (.int .i64 j)) := (Chg.refl _ w).setCell (Or.inl (by simp)) _
 have nd := h.nodup
 simp only [SS, List.nodup_cons, List.mem_append, not_or, Option.mem_toList] at nd
 refine ⟨h.rd.set 1 _, h.code.chg c (fun x hx hn e => by have := h.off hn x e; have := h.above br (by simp [SS]); simp at hx; omega), h.off, own_chg h.parts c (fun x hx e => by simp at hx; subst hx; exact nd.1.1 e), h.plen, ?_, h.nodup, h.above⟩
 match q, h.leaves, nd with
 | none, _, _ => trivial
 | some (bl, vs, l), hl, nd =>
  simp only [lqS, List.mem_cons, not_or, Option.mem_toList] at nd
  exact ⟨hl.1.chg c (by simp; exact fun e => nd.1.2.1 e.symm), own_chg hl.2 c (fun x hx e => by simp at hx; subst hx; exact nd.1.2.2 e)⟩
theorem LS.bump {w wr : World} {B br : Nat} {vc : Value} {C : List (Int × Int)} {vp : Value} {q q' : LQ} {v : Value} {m : Nat} {out : T} {cs : List Value} {i : Nat} {P : List Int} (h : LS w wr B br vc C vp q q' v m out cs i P) (j : Nat) :
  LS w (wr.setCell ⟨br, 1, none⟩ (.int .i64 j)) B br vc C vp q q' v m out cs j P :=
 h.step (S := [br]) ((Chg.refl _ wr).setCell (Or.inl (by simp)) _) (by simp [SS]) (h.st.bump j) (LqTo.refl _ _)
theorem LS.drew {w wr : World} {B br : Nat} {vc : Value} {C : List (Int × Int)} {vp : Value} {q q' : LQ} {v : Value} {m : Nat} {out : T} {cs : List Value} {i : Nat} {P : List Int} (h : LS w wr B br vc C vp q q' v m out cs i P) : LS w wr.drew B br vc C vp q q' v m out cs i P :=
 h.step (S := []) (Chg.refl _ wr).drew (by simp) (h.st.ext (Ext.refl wr).drew) (LqTo.refl _ _)
inductive Sy where
 | nil : Sy
 | op (x : Int × Int) (r : Sy) : Sy
 | blk (x : Int × Int) (b : Sy) (z : Int × Int) (r : Sy) : Sy
 | ife (x : Int × Int) (b : Sy) (y : Int × Int) (c : Sy) (z : Int × Int) (r : Sy) : Sy
namespace Sy
def cod : Sy → List (Int × Int)
 | nil => []
 | op x r => x :: r.cod
 | blk x b z r => x :: (b.cod ++ z :: r.cod)
 | ife x b y c z r => x :: (b.cod ++ y :: (c.cod ++ z :: r.cod))
def len : Sy → Nat
 | nil => 0
 | op _ r => r.len + 1
 | blk _ b _ r => b.len + r.len + 2
 | ife _ b _ c _ r => b.len + c.len + r.len + 3
theorem len_cod (S : Sy) : S.cod.length = S.len := by
 induction S with
 | nil => rfl
 | op x r ih => simp [cod, len, ih]
 | blk x b z r ih1 ih2 => simp [cod, len, ih1, ih2]; omega
 | ife x b y c z r ih1 ih2 ih3 => simp [cod, len, ih1, ih2, ih3]; omega
def wf (L : Bool) : Sy → Prop
 | nil => True
 | op x r => x.1 ≠ 27 ∧ x.1 ≠ 28 ∧ x.1 ≠ 29 ∧ x.1 ≠ 31 ∧ (x.1 = 30 → L = true) ∧ wf L r
 | blk x b z r => (x.1 = 27 ∨ x.1 = 29) ∧ z.1 = 31 ∧ wf (L || x.1 == 29) b ∧ wf L r
 | ife x b y c z r => x.1 = 27 ∧ y.1 = 28 ∧ z.1 = 31 ∧ wf L b ∧ wf L c ∧ wf L r
def dep : Sy → Nat
 | nil => 0
 | op _ r => dep r
 | blk _ b _ r => max (1 + dep b) (dep r)
 | ife _ b _ c _ r => max (1 + max (dep b) (dep c)) (dep r)
def tr (i : Nat) : Sy → T → T
 | nil, out => out
 | op _ r, out => tr (i + 1) r (out.addP i)
 | blk x b _ r, out => tr (i + b.len + 2) r (out.app (.cons x.1 i ((i + b.len + 2 : Nat) : Int) (tr (i + 1) b .nil) .nil .nil))
 | ife x b _ c _ r, out => tr (i + b.len + c.len + 3) r (out.app (.cons x.1 i ((i + b.len + c.len + 3 : Nat) : Int) (tr (i + 1) b .nil) (tr (i + b.len + 2) c .nil) .nil))
def prt (h : Bool) (i : Nat) (lp : Int) : Sy → List Int
 | nil => []
 | op x r => (if x.1 = 30 then lp else -1) :: prt h (i + 1) lp r
 | blk x b _ r => ((i + b.len + 1 : Nat) : Int) :: (prt h (i + 1) (if x.1 = 29 ∧ h = true then ((i + b.len + 1 : Nat) : Int) else lp) b ++ (i : Int) :: prt h (i + b.len + 2) lp r)
 | ife x b _ c _ r => ((i + b.len + 1 : Nat) : Int) :: (prt h (i + 1) lp b ++ ((i + b.len + c.len + 2 : Nat) : Int) :: (prt h (i + b.len + 2) lp c ++ (i : Int) :: prt h (i + b.len + c.len + 3) lp r))
def lvs (i : Nat) : Sy → List Int
 | nil => []
 | op x r => if x.1 = 30 then (i : Int) :: lvs (i + 1) r else lvs (i + 1) r
 | blk x b _ r => (if x.1 = 29 then [] else lvs (i + 1) b) ++ lvs (i + b.len + 2) r
 | ife x b _ c _ r => lvs (i + 1) b ++ (lvs (i + b.len + 2) c ++ lvs (i + b.len + c.len + 3) r)
theorem len_prt (h : Bool) (S : Sy) : ∀ (i : Nat) (lp : Int), (S.prt h i lp).length = S.len := by
 induction S with
 | nil => intros; rfl
 | op x r ih => intros; simp [prt, len, ih]
 | blk x b z r ih1 ih2 => intros; simp [prt, len, ih1, ih2]; omega
 | ife x b y c z r ih1 ih2 ih3 => intros; simp [prt, len, ih1, ih2, ih3]; omega
end Sy
theorem set_at {α : Type} (A : List α) (x y : α) (B : List α) (i : Nat) (h : A.length = i) : (A ++ x :: B).set i y = A ++ y :: B := by
 subst h
 rw [List.set_append_right _ _ (Nat.le_refl _), Nat.sub_self, List.set_cons_zero]
theorem get_at {α : Type} (A : List α) (x : α) (B : List α) (i : Nat) (h : A.length = i) : (A ++ x :: B)[i]? = some x := by
 subst h
 rw [List.getElem?_append_right (Nat.le_refl _), Nat.sub_self]
 rfl
theorem op_at {C : List (Int × Int)} {A B : List (Int × Int)} {x : Int × Int} {i : Nat} (hC : C = A ++ x :: B) (h : A.length = i) : opAtFl C i = x.1 ∧ i < C.length := by
 have := get_at A x B i h
 refine ⟨?_, by rw [hC]; simp; omega⟩
 unfold opAtFl
 rw [hC, List.getD, this]
 rfl
theorem rep_split (k m : Nat) : List.replicate (k + m) (-1 : Int) = List.replicate k (-1) ++ List.replicate m (-1) := (List.replicate_append_replicate).symm
theorem fold_lvs (k : Int) (S : Sy) : ∀ (i : Nat) (lp : Int) (A B : List Int), A.length = i → (S.lvs i).foldl (fun P x => P.set x.toNat k) (A ++ (S.prt true i lp ++ B)) = A ++ (S.prt true i k ++ B) := by
 induction S with
 | nil => intros; rfl
 | op x r ih =>
  intro i lp A B hA
  unfold Sy.lvs Sy.prt
  by_cases h : x.1 = 30
  ·rw [if_pos h, if_pos h, if_pos h, List.foldl_cons, Int.toNat_natCast, List.cons_append, set_at A lp k _ i hA]
   have := ih (i + 1) lp (A ++ [k]) B (by simp; omega)
   simpa [List.append_assoc] using this
  ·rw [if_neg h, if_neg h, if_neg h]
   have := ih (i + 1) lp (A ++ [-1]) B (by simp; omega)
   simpa [List.append_assoc] using this
 | blk x b z r ih1 ih2 =>
  intro i lp A B hA
  unfold Sy.lvs Sy.prt
  rw [List.foldl_append]
  by_cases h : x.1 = 29
  ·rw [if_pos h, if_pos ⟨h, rfl⟩, if_pos ⟨h, rfl⟩]
   have := ih2 (i + b.len + 2) lp (A ++ (((i + b.len + 1 : Nat) : Int) :: (b.prt true (i + 1) ((i + b.len + 1 : Nat) : Int) ++ [(i : Int)]))) B (by simp [Sy.len_prt]; omega)
   simpa [List.append_assoc] using this
  ·rw [if_neg h, if_neg (fun h' => h h'.1), if_neg (fun h' => h h'.1)]
   have h1 := ih1 (i + 1) lp (A ++ [((i + b.len + 1 : Nat) : Int)]) ((i : Int) :: r.prt true (i + b.len + 2) lp ++ B) (by simp; omega)
   have h2 := ih2 (i + b.len + 2) lp (A ++ (((i + b.len + 1 : Nat) : Int) :: (b.prt true (i + 1) k ++ [(i : Int)]))) B (by simp [Sy.len_prt]; omega)
   simp only [List.append_assoc, List.cons_append, List.nil_append] at h1 h2 ⊢
   rw [h1, h2]
 | ife x b y c z r ih1 ih2 ih3 =>
  intro i lp A B hA
  unfold Sy.lvs Sy.prt
  rw [List.foldl_append, List.foldl_append]
  have h1 := ih1 (i + 1) lp (A ++ [((i + b.len + 1 : Nat) : Int)]) (((i + b.len + c.len + 2 : Nat) : Int) :: (c.prt true (i + b.len + 2) lp ++ (i : Int) :: r.prt true (i + b.len + c.len + 3) lp) ++ B) (by simp; omega)
  have h2 := ih2 (i + b.len + 2) lp (A ++ (((i + b.len + 1 : Nat) : Int) :: (b.prt true (i + 1) k ++ [((i + b.len + c.len + 2 : Nat) : Int)]))) ((i : Int) :: r.prt true (i + b.len + c.len + 3) lp ++ B) (by simp [Sy.len_prt]; omega)
  have h3 := ih3 (i + b.len + c.len + 3) lp (A ++ (((i + b.len + 1 : Nat) : Int) :: (b.prt true (i + 1) k ++ ((i + b.len + c.len + 2 : Nat) : Int) :: (c.prt true (i + b.len + 2) k ++ [(i : Int)])))) B (by simp [Sy.len_prt]; omega)
  simp only [List.append_assoc, List.cons_append, List.nil_append] at h1 h2 h3 ⊢
  rw [h1, h2, h3]
def stops (R : List (Int × Int)) : Prop := R = [] ∨ ∃ x t, R = x :: t ∧ (x.1 = 28 ∨ x.1 = 31)
theorem complete (C : List (Int × Int)) (S : Sy) : ∀ (d : Nat) (L : Bool) (i f : Nat) (out : T) (PA PB lv : List Int) (pre rest : List (Int × Int)), C = pre ++ (S.cod ++ rest) → pre.length = i → stops rest → S.wf L → d + S.dep ≤ 8 → PA.length = i → C.length - i < f →
  lstF C f i d L out (PA ++ (List.replicate S.len (-1) ++ PB)) lv = .ok (S.tr i out, i + S.len, PA ++ (S.prt true i (-1) ++ PB), lv ++ S.lvs i) := by
 induction S with
 | nil =>
  intro d L i f out PA PB lv pre rest hC hp hs hw hd hA hf
  obtain ⟨f, rfl⟩ : ∃ f', f = f' + 1 := ⟨f - 1, by omega⟩
  unfold lstF
  rcases hs with rfl | ⟨x, t, rfl, hx⟩
  ·rw [if_pos (by rw [hC]; simp [Sy.cod]; omega)]; simp [Sy.tr, Sy.len, Sy.prt, Sy.lvs]
  ·obtain ⟨h1, h2⟩ := op_at (C := C) (x := x) (A := pre) (B := t) (by rw [hC]; rfl) hp
   rw [if_neg (by omega), if_pos (by rw [h1]; exact hx)]; simp [Sy.tr, Sy.len, Sy.prt, Sy.lvs]
 | op x r ih =>
  intro d L i f out PA PB lv pre rest hC hp hs hw hd hA hf
  obtain ⟨f, rfl⟩ : ∃ f', f = f' + 1 := ⟨f - 1, by omega⟩
  obtain ⟨w1, w2, w3, w4, w5, w6⟩ := hw
  obtain ⟨h1, h2⟩ := op_at (C := C) (x := x) (A := pre) (B := r.cod ++ rest) (by rw [hC]; rfl) hp
  unfold lstF
  rw [if_neg (by omega), if_neg (by rw [h1]; omega), if_neg (by rw [h1]; omega), if_neg (fun h => by rw [h1] at h; have := w5 h.1; rw [this] at h; simp at h), h1]
  have := ih d L (i + 1) f (out.addP i) (PA ++ [-1]) PB (if x.1 = 30 then lv ++ [(i : Int)] else lv) (pre ++ [x]) rest (by rw [hC]; simp [Sy.cod]) (by simp; omega) hs w6 hd (by simp; omega) (by omega)
  rw [show PA ++ (List.replicate (Sy.op x r).len (-1) ++ PB) = (PA ++ [-1]) ++ (List.replicate r.len (-1) ++ PB) by rw [show (Sy.op x r).len = 1 + r.len by simp [Sy.len]; omega, rep_split]; simp, this]
  simp only [Sy.tr, Sy.len, Sy.prt, Sy.lvs]
  congr 3
  ·omega
  ·by_cases h : x.1 = 30
   ·simp [h]
   ·simp [h]
 | blk x b z r ih1 ih2 =>
  intro d L i f out PA PB lv pre rest hC hp hs hw hd hA hf
  obtain ⟨f, rfl⟩ : ∃ f', f = f' + 1 := ⟨f - 1, by omega⟩
  obtain ⟨w1, w2, w3, w4⟩ := hw
  simp only [Sy.dep] at hd
  have e0 : C = pre ++ x :: (b.cod ++ z :: (r.cod ++ rest)) := by rw [hC]; simp [Sy.cod]
  have e1 : C = (pre ++ [x]) ++ (b.cod ++ z :: (r.cod ++ rest)) := by rw [e0]; simp
  have e2 : C = (pre ++ x :: b.cod) ++ z :: (r.cod ++ rest) := by rw [e0]; simp
  have e3 : C = (pre ++ x :: (b.cod ++ [z])) ++ (r.cod ++ rest) := by rw [e0]; simp
  obtain ⟨h1, h2⟩ := op_at e0 hp
  obtain ⟨k1, k2⟩ := op_at e2 (i := i + 1 + b.len) (by simp [Sy.len_cod]; omega)
  have hb := ih1 (d + 1) (L || x.1 == 29) (i + 1) f .nil (PA ++ [-1]) (-1 :: (List.replicate r.len (-1) ++ PB)) (if x.1 = 29 then [] else lv) (pre ++ [x]) (z :: (r.cod ++ rest)) e1 (by simp; omega) (Or.inr ⟨z, _, rfl, Or.inr w2⟩) w3 (by omega) (by simp; omega) (by omega)
  have hr := ih2 d L (i + b.len + 2) f (out.app (.cons x.1 i ((i + b.len + 2 : Nat) : Int) (b.tr (i + 1) .nil) .nil .nil)) (PA ++ (((i + b.len + 1 : Nat) : Int) :: (b.prt true (i + 1) (if x.1 = 29 ∧ true = true then ((i + b.len + 1 : Nat) : Int) else -1) ++ [(i : Int)]))) PB (lv ++ (if x.1 = 29 then [] else b.lvs (i + 1))) (pre ++ x :: (b.cod ++ [z])) rest e3 (by simp [Sy.len_cod]; omega) hs w4 (by omega) (by simp [Sy.len_prt]; omega) (by omega)
  unfold lstF
  rw [if_neg (by omega), if_neg (by rw [h1]; omega), if_pos (by rw [h1]; omega)]
  unfold blkF
  rw [if_neg (by omega), h1]
  rw [show PA ++ (List.replicate (Sy.blk x b z r).len (-1) ++ PB) = (PA ++ [-1]) ++ (List.replicate b.len (-1) ++ -1 :: (List.replicate r.len (-1) ++ PB)) by
   rw [show (Sy.blk x b z r).len = 1 + (b.len + (1 + r.len)) by simp [Sy.len]; omega, rep_split, rep_split, rep_split]; simp, hb]
  simp only
  rw [if_neg (by rw [k1]; omega)]
  unfold finF
  rw [if_pos ⟨k2, by rw [k1]; exact w2⟩]
  simp only
  have s1 : (PA ++ [-1] ++ (b.prt true (i + 1) (-1) ++ -1 :: (List.replicate r.len (-1) ++ PB))).set i ((i + 1 + b.len : Nat) : Int) = PA ++ [((i + b.len + 1 : Nat) : Int)] ++ (b.prt true (i + 1) (-1) ++ -1 :: (List.replicate r.len (-1) ++ PB)) := by
   rw [show PA ++ [-1] ++ (b.prt true (i + 1) (-1) ++ -1 :: (List.replicate r.len (-1) ++ PB)) = PA ++ -1 :: (b.prt true (i + 1) (-1) ++ -1 :: (List.replicate r.len (-1) ++ PB)) by simp, set_at PA _ _ _ i hA]
   rw [show i + 1 + b.len = i + b.len + 1 by omega]; simp
  rw [s1]
  have s2 : (PA ++ [((i + b.len + 1 : Nat) : Int)] ++ (b.prt true (i + 1) (-1) ++ -1 :: (List.replicate r.len (-1) ++ PB))).set (i + 1 + b.len) (i : Int) = (PA ++ [((i + b.len + 1 : Nat) : Int)]) ++ (b.prt true (i + 1) (-1) ++ (i : Int) :: (List.replicate r.len (-1) ++ PB)) := by
   rw [← List.append_assoc, set_at (PA ++ [((i + b.len + 1 : Nat) : Int)] ++ b.prt true (i + 1) (-1)) _ _ _ _ (by simp [Sy.len_prt]; omega), List.append_assoc]
  rw [s2]
  have s3 : List.foldl (fun P x => P.set x.toNat ((i + 1 + b.len : Nat) : Int)) ((PA ++ [((i + b.len + 1 : Nat) : Int)]) ++ (b.prt true (i + 1) (-1) ++ (i : Int) :: (List.replicate r.len (-1) ++ PB))) (if x.1 = 29 then (if x.1 = 29 then [] else lv) ++ b.lvs (i + 1) else []) =
    (PA ++ (((i + b.len + 1 : Nat) : Int) :: (b.prt true (i + 1) (if x.1 = 29 ∧ true = true then ((i + b.len + 1 : Nat) : Int) else -1) ++ [(i : Int)]))) ++ (List.replicate r.len (-1) ++ PB) := by
   by_cases h : x.1 = 29
   ·rw [if_pos h, if_pos h, if_pos ⟨h, rfl⟩, List.nil_append, fold_lvs _ b (i + 1) (-1) _ _ (by simp; omega), show i + 1 + b.len = i + b.len + 1 by omega]; simp
   ·rw [if_neg h, if_neg (fun h' => h h'.1)]; simp
  rw [s3, show (if x.1 = 29 then lv else (if x.1 = 29 then [] else lv) ++ b.lvs (i + 1)) = lv ++ (if x.1 = 29 then [] else b.lvs (i + 1)) by split <;> simp [*], show i + 1 + b.len + 1 = i + b.len + 2 by omega, show ((i + 1 + b.len : Nat) : Int) + 1 = ((i + b.len + 2 : Nat) : Int) by omega, hr]
  simp only [Sy.tr, Sy.len, Sy.prt, Sy.lvs]
  congr 3
  ·omega
  ·simp
 | ife x b y c z r ih1 ih2 ih3 =>
  intro d L i f out PA PB lv pre rest hC hp hs hw hd hA hf
  obtain ⟨f, rfl⟩ : ∃ f', f = f' + 1 := ⟨f - 1, by omega⟩
  obtain ⟨w1, w2, w3, w4, w5, w6⟩ := hw
  simp only [Sy.dep] at hd
  have h29 : x.1 ≠ 29 := by omega
  have e0 : C = pre ++ x :: (b.cod ++ y :: (c.cod ++ z :: (r.cod ++ rest))) := by rw [hC]; simp [Sy.cod]
  have e1 : C = (pre ++ [x]) ++ (b.cod ++ y :: (c.cod ++ z :: (r.cod ++ rest))) := by rw [e0]; simp
  have e2 : C = (pre ++ x :: b.cod) ++ y :: (c.cod ++ z :: (r.cod ++ rest)) := by rw [e0]; simp
  have e3 : C = (pre ++ x :: (b.cod ++ [y])) ++ (c.cod ++ z :: (r.cod ++ rest)) := by rw [e0]; simp
  have e4 : C = (pre ++ x :: (b.cod ++ y :: c.cod)) ++ z :: (r.cod ++ rest) := by rw [e0]; simp
  have e5 : C = (pre ++ x :: (b.cod ++ y :: (c.cod ++ [z]))) ++ (r.cod ++ rest) := by rw [e0]; simp
  obtain ⟨h1, h2⟩ := op_at e0 hp
  obtain ⟨k1, k2⟩ := op_at e2 (i := i + 1 + b.len) (by simp [Sy.len_cod]; omega)
  obtain ⟨m1, m2⟩ := op_at e4 (i := i + 1 + b.len + 1 + c.len) (by simp [Sy.len_cod]; omega)
  have hb := ih1 (d + 1) L (i + 1) f .nil (PA ++ [-1]) (-1 :: (List.replicate c.len (-1) ++ -1 :: (List.replicate r.len (-1) ++ PB))) lv (pre ++ [x]) _ e1 (by simp; omega) (Or.inr ⟨y, _, rfl, Or.inl w2⟩) w4 (by omega) (by simp; omega) (by omega)
  have hc := ih2 (d + 1) L (i + 1 + b.len + 1) f .nil (PA ++ (((i + b.len + 1 : Nat) : Int) :: (b.prt true (i + 1) (-1) ++ [-1]))) (-1 :: (List.replicate r.len (-1) ++ PB)) (lv ++ b.lvs (i + 1)) (pre ++ x :: (b.cod ++ [y])) _ e3 (by simp [Sy.len_cod]; omega) (Or.inr ⟨z, _, rfl, Or.inr w3⟩) w5 (by omega) (by simp [Sy.len_prt]; omega) (by omega)
  have hr := ih3 d L (i + b.len + c.len + 3) f (out.app (.cons x.1 i ((i + b.len + c.len + 3 : Nat) : Int) (b.tr (i + 1) .nil) (c.tr (i + b.len + 2) .nil) .nil)) (PA ++ (((i + b.len + 1 : Nat) : Int) :: (b.prt true (i + 1) (-1) ++ ((i + b.len + c.len + 2 : Nat) : Int) :: (c.prt true (i + b.len + 2) (-1) ++ [(i : Int)])))) PB (lv ++ (b.lvs (i + 1) ++ c.lvs (i + b.len + 2))) _ rest e5 (by simp [Sy.len_cod]; omega) hs w6 (by omega) (by simp [Sy.len_prt]; omega) (by omega)
  unfold lstF
  rw [if_neg (by omega), if_neg (by rw [h1]; omega), if_pos (by rw [h1]; omega)]
  unfold blkF
  rw [if_neg (by omega), h1, show (L || x.1 == 29) = L by simp [h29], if_neg h29]
  rw [show PA ++ (List.replicate (Sy.ife x b y c z r).len (-1) ++ PB) = (PA ++ [-1]) ++ (List.replicate b.len (-1) ++ -1 :: (List.replicate c.len (-1) ++ -1 :: (List.replicate r.len (-1) ++ PB))) by
   rw [show (Sy.ife x b y c z r).len = 1 + (b.len + (1 + (c.len + (1 + r.len)))) by simp [Sy.len]; omega, rep_split, rep_split, rep_split, rep_split, rep_split]; simp, hb]
  simp only
  rw [if_pos ⟨w1, k2, by rw [k1]; exact w2⟩]
  have s1 : (PA ++ [-1] ++ (b.prt true (i + 1) (-1) ++ -1 :: (List.replicate c.len (-1) ++ -1 :: (List.replicate r.len (-1) ++ PB)))).set i ((i + 1 + b.len : Nat) : Int) = (PA ++ (((i + b.len + 1 : Nat) : Int) :: (b.prt true (i + 1) (-1) ++ [-1]))) ++ (List.replicate c.len (-1) ++ -1 :: (List.replicate r.len (-1) ++ PB)) := by
   rw [show PA ++ [-1] ++ (b.prt true (i + 1) (-1) ++ -1 :: (List.replicate c.len (-1) ++ -1 :: (List.replicate r.len (-1) ++ PB))) = PA ++ -1 :: (b.prt true (i + 1) (-1) ++ -1 :: (List.replicate c.len (-1) ++ -1 :: (List.replicate r.len (-1) ++ PB))) by simp, set_at PA _ _ _ i hA]
   rw [show i + 1 + b.len = i + b.len + 1 by omega]; simp
  rw [s1, hc]
  simp only
  unfold finF
  rw [if_pos ⟨m2, by rw [m1]; exact w3⟩]
  simp only
  rw [if_neg h29, if_neg h29, List.foldl_nil]
  have s2 : ((PA ++ (((i + b.len + 1 : Nat) : Int) :: (b.prt true (i + 1) (-1) ++ [-1])) ++ (c.prt true (i + 1 + b.len + 1) (-1) ++ -1 :: (List.replicate r.len (-1) ++ PB))).set (i + 1 + b.len) ((i + 1 + b.len + 1 + c.len : Nat) : Int)).set (i + 1 + b.len + 1 + c.len) (i : Int) =
    (PA ++ (((i + b.len + 1 : Nat) : Int) :: (b.prt true (i + 1) (-1) ++ ((i + b.len + c.len + 2 : Nat) : Int) :: (c.prt true (i + b.len + 2) (-1) ++ [(i : Int)])))) ++ (List.replicate r.len (-1) ++ PB) := by
   rw [show PA ++ (((i + b.len + 1 : Nat) : Int) :: (b.prt true (i + 1) (-1) ++ [-1])) ++ (c.prt true (i + 1 + b.len + 1) (-1) ++ -1 :: (List.replicate r.len (-1) ++ PB)) = (PA ++ ((i + b.len + 1 : Nat) : Int) :: b.prt true (i + 1) (-1)) ++ -1 :: (c.prt true (i + 1 + b.len + 1) (-1) ++ -1 :: (List.replicate r.len (-1) ++ PB)) by simp]
   rw [set_at _ _ _ _ _ (by simp [Sy.len_prt]; omega)]
   rw [show ∀ v : Int, (PA ++ ((i + b.len + 1 : Nat) : Int) :: b.prt true (i + 1) (-1)) ++ v :: (c.prt true (i + 1 + b.len + 1) (-1) ++ -1 :: (List.replicate r.len (-1) ++ PB)) = ((PA ++ ((i + b.len + 1 : Nat) : Int) :: b.prt true (i + 1) (-1)) ++ v :: c.prt true (i + 1 + b.len + 1) (-1)) ++ -1 :: (List.replicate r.len (-1) ++ PB) from fun v => by simp]
   rw [set_at _ _ _ _ _ (by simp [Sy.len_prt]; omega), show i + 1 + b.len + 1 = i + b.len + 2 by omega, show i + b.len + 2 + c.len = i + b.len + c.len + 2 by omega]
   simp
  rw [s2, show i + 1 + b.len + 1 + c.len + 1 = i + b.len + c.len + 3 by omega, show ((i + 1 + b.len + 1 + c.len : Nat) : Int) + 1 = ((i + b.len + c.len + 3 : Nat) : Int) by omega, show i + 1 + b.len + 1 = i + b.len + 2 by omega, List.append_assoc lv, hr]
  simp only [Sy.tr, Sy.len, Sy.prt, Sy.lvs]
  congr 3
  ·omega
  ·simp
theorem sound (C : List (Int × Int)) (f : Nat) : ∀ (i d : Nat) (L : Bool) (out : T) (P lv : List Int) (r : T × Nat × List Int × List Int), i ≤ C.length → d ≤ 8 → lstF C f i d L out P lv = .ok r →
  ∃ (S : Sy) (rest : List (Int × Int)), C.drop i = S.cod ++ rest ∧ stops rest ∧ S.wf L ∧ d + S.dep ≤ 8 ∧ r.2.1 = i + S.len := by
 induction f with
 | zero => intro i d L out P lv r hi hd h; simp [lstF] at h
 | succ f ih =>
  intro i d L out P lv r hi hd h
  unfold lstF at h
  split at h
  next hlt => cases h; exact ⟨.nil, [], by rw [List.drop_of_length_le hlt]; rfl, Or.inl rfl, trivial, by simp [Sy.dep]; omega, by simp [Sy.len]⟩
  next hlt =>
  have hx : C.drop i = C[i] :: C.drop (i + 1) := List.drop_eq_getElem_cons (by omega)
  have ho : opAtFl C i = (C[i]).1 := by simp [opAtFl, List.getD, List.getElem?_eq_getElem (show i < C.length by omega)]
  generalize C[i] = x at hx ho
  split at h
  next hs => cases h; exact ⟨.nil, C.drop i, rfl, Or.inr ⟨x, _, hx, by rw [← ho]; exact hs⟩, trivial, by simp [Sy.dep]; omega, by simp [Sy.len]⟩
  next hs =>
  split at h
  next hb =>
   split at h
   ·cases h
   next b0 j P' lv' hb0 =>
   have key : ∀ (k : Nat) (S1 : Sy → Sy), j = k + 1 → i < j → j ≤ C.length → (∀ R, (S1 R).cod ++ [] = (S1 R).cod) → (∀ (R : Sy) (rest : List (Int × Int)), C.drop j = R.cod ++ rest → C.drop i = (S1 R).cod ++ rest) → (∀ R : Sy, R.wf L → (S1 R).wf L) → (∀ R : Sy, d + R.dep ≤ 8 → d + (S1 R).dep ≤ 8) → (∀ R : Sy, i + (S1 R).len = j + R.len) →
     ∃ (S : Sy) (rest : List (Int × Int)), C.drop i = S.cod ++ rest ∧ stops rest ∧ S.wf L ∧ d + S.dep ≤ 8 ∧ r.2.1 = i + S.len := by
    intro k S1 _ _ hj _ h1 h2 h3 h4
    obtain ⟨R, rest, a1, a2, a3, a4, a5⟩ := ih _ _ _ _ _ _ _ hj hd h
    exact ⟨S1 R, rest, h1 R rest a1, a2, h2 R a3, h3 R a4, by rw [h4, a5]⟩
   unfold blkF at hb0
   split at hb0
   ·cases hb0
   next hd8 =>
   rw [ho] at hb0 hb hs
   split at hb0
   ·cases hb0
   next body j1 P1 lv1 h1 =>
   have g1 := lst_ge C f _ _ _ _ _ _ _ (by omega) h1
   obtain ⟨B, rb, b1, b2, b3, b4, b5⟩ := ih _ _ _ _ _ _ _ (by omega) (by omega) h1
   simp only at b5 g1
   have hdj : C.drop j1 = rb := by rw [b5, ← List.drop_drop, b1, ← Sy.len_cod]; simp
   split at hb0
   next hc =>
    obtain ⟨c1, c2, c3⟩ := hc
    split at hb0
    ·cases hb0
    next oth k P2 lv2 h2 =>
    have g2 := lst_ge C f _ _ _ _ _ _ _ (by omega) h2
    obtain ⟨Cc, rc, d1, d2, d3, d4, d5⟩ := ih _ _ _ _ _ _ _ (by omega) (by omega) h2
    simp only at d5 g2
    have hy : C.drop j1 = C[j1] :: C.drop (j1 + 1) := List.drop_eq_getElem_cons c2
    have hyo : opAtFl C j1 = (C[j1]).1 := by simp [opAtFl, List.getD, List.getElem?_eq_getElem c2]
    generalize C[j1] = y at hy hyo
    have hdk : C.drop k = rc := by rw [d5, ← List.drop_drop, d1, ← Sy.len_cod]; simp
    unfold finF at hb0
    split at hb0
    next hk =>
     obtain ⟨hk1, hk2⟩ := hk
     simp only [Except.ok.injEq, Prod.mk.injEq] at hb0
     obtain ⟨-, rfl, -, -⟩ := hb0
     have hz : C.drop k = C[k] :: C.drop (k + 1) := List.drop_eq_getElem_cons hk1
     have hzo : opAtFl C k = (C[k]).1 := by simp [opAtFl, List.getD, List.getElem?_eq_getElem hk1]
     generalize C[k] = z at hz hzo
     refine key k (fun R => .ife x B y Cc z R) rfl (by omega) (by omega) (fun _ => by simp) (fun R rest hR => ?_) (fun R hR => ⟨c1, by rw [← hyo]; exact c3, by rw [← hzo]; exact hk2, by simpa [c1] using b3, d3, hR⟩) (fun R hR => by simp only [Sy.dep]; omega) (fun R => by simp only [Sy.len]; omega)
     rw [hx, b1, ← hdj, hy, d1, ← hdk, hz, hR]
     simp [Sy.cod]
    ·cases hb0
   next hc =>
    unfold finF at hb0
    split at hb0
    next hk =>
     obtain ⟨hk1, hk2⟩ := hk
     simp only [Except.ok.injEq, Prod.mk.injEq] at hb0
     obtain ⟨-, rfl, -, -⟩ := hb0
     have hz : C.drop j1 = C[j1] :: C.drop (j1 + 1) := List.drop_eq_getElem_cons hk1
     have hzo : opAtFl C j1 = (C[j1]).1 := by simp [opAtFl, List.getD, List.getElem?_eq_getElem hk1]
     generalize C[j1] = z at hz hzo
     refine key j1 (fun R => .blk x B z R) rfl (by omega) (by omega) (fun _ => by simp) (fun R rest hR => ?_) (fun R hR => ⟨hb, by rw [← hzo]; exact hk2, b3, hR⟩) (fun R hR => by simp only [Sy.dep]; omega) (fun R => by simp only [Sy.len]; omega)
     rw [hx, b1, ← hdj, hz, hR]
     simp [Sy.cod]
    ·cases hb0
  next hb =>
  split at h
  ·cases h
  next h30 =>
   rw [ho] at hb hs h30
   obtain ⟨R, rest, a1, a2, a3, a4, a5⟩ := ih _ _ _ _ _ _ _ (by omega) hd h
   refine ⟨.op x R, rest, by rw [hx, a1]; rfl, a2, ⟨by omega, by omega, by omega, by omega, fun h31 => ?_, a3⟩, a4, by rw [a5]; simp [Sy.len]; omega⟩
   cases L with
   | true => rfl
   | false => exact absurd ⟨h31, rfl⟩ h30
abbrev Stk := List (Nat × Int)
def inLoop (C : List (Int × Int)) : Stk → Bool
 | [] => false
 | (a, _) :: st => opAtFl C a == 29 || inLoop C st
def stepM (C : List (Int × Int)) (i : Nat) (st : Stk) (out : List Int) : Option (Stk × List Int) :=
 if opAtFl C i = 27 ∨ opAtFl C i = 29 then if st.length = 8 then none else some ((i, -1) :: st, out)
 else if opAtFl C i = 28 then
  match st with
  | [] => none
  | (a, y) :: s => if opAtFl C a ≠ 27 ∨ 0 ≤ y then none else some ((a, (i : Int)) :: s, out.set a i)
 else if opAtFl C i = 30 then if inLoop C st then some (st, out) else none
 else if opAtFl C i = 31 then
  match st with
  | [] => none
  | (a, y) :: s => some (s, (out.set i a).set (if 0 ≤ y then y.toNat else a) i)
 else some (st, out)
def runM (C : List (Int × Int)) : Nat → Nat → Stk → List Int → Except Nat (List Int)
 | 0, i, st, out => if st = [] then .ok out else .error i
 | m + 1, i, st, out => match stepM C i st (out.set i (-1)) with
  | none => .error i
  | some (st', out') => runM C m (i + 1) st' out'
theorem runM_succ (C : List (Int × Int)) (m i : Nat) (st : Stk) (out : List Int) : runM C (m + 1) i st out = match stepM C i st (out.set i (-1)) with
  | none => .error i
  | some (st', out') => runM C m (i + 1) st' out' := rfl
theorem runM_sy (C : List (Int × Int)) (S : Sy) : ∀ (m i : Nat) (st : Stk) (A X B : List Int) (pre rest : List (Int × Int)), C = pre ++ (S.cod ++ rest) → pre.length = i → S.wf (inLoop C st) → st.length + S.dep ≤ 8 → A.length = i → X.length = S.len →
  runM C (m + S.len) i st (A ++ (X ++ B)) = runM C m (i + S.len) st (A ++ (S.prt false i (-1) ++ B)) := by
 induction S with
 | nil =>
  intro m i st A X B pre rest hC hp hw hd hA hX
  obtain rfl : X = [] := List.length_eq_zero_iff.1 (by simpa [Sy.len] using hX)
  rfl
 | op x r ih =>
  intro m i st A X B pre rest hC hp hw hd hA hX
  obtain ⟨w1, w2, w3, w4, w5, w6⟩ := hw
  obtain ⟨h1, h2⟩ := op_at (C := C) (x := x) (A := pre) (B := r.cod ++ rest) (by rw [hC]; rfl) hp
  obtain ⟨x0, X, rfl⟩ : ∃ x0 X', X = x0 :: X' := by cases X with | nil => simp [Sy.len] at hX | cons a l => exact ⟨a, l, rfl⟩
  rw [show m + (Sy.op x r).len = (m + r.len) + 1 by simp [Sy.len]; omega]
  rw [runM_succ]
  rw [show A ++ (x0 :: X ++ B) = A ++ x0 :: (X ++ B) by simp, set_at A x0 _ _ i hA]
  have hst : stepM C i st (A ++ -1 :: (X ++ B)) = some (st, A ++ -1 :: (X ++ B)) := by
   unfold stepM
   rw [h1, if_neg (by omega), if_neg (by omega)]
   by_cases h30 : x.1 = 30
   ·rw [if_pos h30, if_pos (w5 h30)]
   ·rw [if_neg h30, if_neg (by omega)]
  rw [hst]
  simp only
  have := ih m (i + 1) st (A ++ [-1]) X B (pre ++ [x]) rest (by rw [hC]; simp [Sy.cod]) (by simp; omega) w6 hd (by simp; omega) (by simpa [Sy.len] using hX)
  rw [show A ++ -1 :: (X ++ B) = (A ++ [-1]) ++ (X ++ B) by simp, this]
  simp only [Sy.len, Sy.prt]
  rw [show i + 1 + r.len = i + (r.len + 1) by omega]
  simp
 | blk x b z r ih1 ih2 =>
  intro m i st A X B pre rest hC hp hw hd hA hX
  obtain ⟨w1, w2, w3, w4⟩ := hw
  simp only [Sy.dep] at hd
  have e0 : C = pre ++ x :: (b.cod ++ z :: (r.cod ++ rest)) := by rw [hC]; simp [Sy.cod]
  have e1 : C = (pre ++ [x]) ++ (b.cod ++ z :: (r.cod ++ rest)) := by rw [e0]; simp
  have e2 : C = (pre ++ x :: b.cod) ++ z :: (r.cod ++ rest) := by rw [e0]; simp
  have e3 : C = (pre ++ x :: (b.cod ++ [z])) ++ (r.cod ++ rest) := by rw [e0]; simp
  obtain ⟨h1, h2⟩ := op_at e0 hp
  obtain ⟨k1, k2⟩ := op_at e2 (i := i + 1 + b.len) (by simp [Sy.len_cod]; omega)
  obtain ⟨x0, X1, x1, X2, rfl, hX1, hX2⟩ : ∃ x0 X1 x1 X2, X = x0 :: (X1 ++ x1 :: X2) ∧ X1.length = b.len ∧ X2.length = r.len := by
   cases X with
   | nil => simp [Sy.len] at hX
   | cons a l =>
    have hl : l.length = b.len + r.len + 1 := by simp [Sy.len] at hX; omega
    have : (l.drop b.len).length = r.len + 1 := by simp; omega
    cases hc : l.drop b.len with
    | nil => rw [hc] at this; simp at this
    | cons y t => exact ⟨a, l.take b.len, y, t, by rw [← hc, List.take_append_drop], by simp; omega, by rw [hc] at this; simpa using this⟩
  have hb := ih1 ((m + r.len) + 1) (i + 1) ((i, -1) :: st) (A ++ [-1]) X1 (x1 :: X2 ++ B) (pre ++ [x]) _ e1 (by simp; omega) (by simp only [inLoop]; rw [h1, Bool.or_comm]; exact w3) (by simp; omega) (by simp; omega) hX1
  have hr := ih2 m (i + b.len + 2) st (A ++ (((i + b.len + 1 : Nat) : Int) :: (b.prt false (i + 1) (-1) ++ [(i : Int)]))) X2 B (pre ++ x :: (b.cod ++ [z])) rest e3 (by simp [Sy.len_cod]; omega) w4 (by omega) (by simp [Sy.len_prt]; omega) hX2
  rw [show m + (Sy.blk x b z r).len = ((m + r.len) + 1 + b.len) + 1 by simp [Sy.len]; omega]
  rw [runM_succ]
  rw [show A ++ (x0 :: (X1 ++ x1 :: X2) ++ B) = A ++ x0 :: (X1 ++ (x1 :: X2 ++ B)) by simp, set_at A x0 _ _ i hA]
  have hst : ∀ o, stepM C i st o = some ((i, -1) :: st, o) := fun o => by
   unfold stepM
   rw [h1, if_pos (by omega), if_neg (by omega)]
  rw [hst]
  simp only
  rw [show A ++ -1 :: (X1 ++ (x1 :: X2 ++ B)) = (A ++ [-1]) ++ (X1 ++ (x1 :: X2 ++ B)) by simp, hb]
  rw [runM_succ]
  rw [show A ++ [-1] ++ (b.prt false (i + 1) (-1) ++ (x1 :: X2 ++ B)) = (A ++ -1 :: b.prt false (i + 1) (-1)) ++ x1 :: (X2 ++ B) by simp]
  rw [set_at _ x1 _ _ (i + 1 + b.len) (by simp [Sy.len_prt]; omega)]
  have hst2 : stepM C (i + 1 + b.len) ((i, -1) :: st) ((A ++ -1 :: b.prt false (i + 1) (-1)) ++ -1 :: (X2 ++ B)) = some (st, (A ++ (((i + b.len + 1 : Nat) : Int) :: (b.prt false (i + 1) (-1) ++ [(i : Int)]))) ++ (X2 ++ B)) := by
   unfold stepM
   rw [k1, w2, if_neg (by omega), if_neg (by omega), if_neg (by omega), if_pos rfl]
   simp only
   rw [if_neg (by omega), set_at _ _ _ _ (i + 1 + b.len) (by simp [Sy.len_prt]; omega), List.append_assoc, List.cons_append, set_at A _ _ _ i hA]
   simp [show i + 1 + b.len = i + b.len + 1 by omega]
  rw [hst2]
  simp only
  rw [show i + 1 + b.len + 1 = i + b.len + 2 by omega, hr]
  simp only [Sy.len, Sy.prt]
  rw [show i + b.len + 2 + r.len = i + (b.len + r.len + 2) by omega]
  simp
 | ife x b y c z r ih1 ih2 ih3 =>
  intro m i st A X B pre rest hC hp hw hd hA hX
  obtain ⟨w1, w2, w3, w4, w5, w6⟩ := hw
  simp only [Sy.dep] at hd
  have e0 : C = pre ++ x :: (b.cod ++ y :: (c.cod ++ z :: (r.cod ++ rest))) := by rw [hC]; simp [Sy.cod]
  have e1 : C = (pre ++ [x]) ++ (b.cod ++ y :: (c.cod ++ z :: (r.cod ++ rest))) := by rw [e0]; simp
  have e2 : C = (pre ++ x :: b.cod) ++ y :: (c.cod ++ z :: (r.cod ++ rest)) := by rw [e0]; simp
  have e3 : C = (pre ++ x :: (b.cod ++ [y])) ++ (c.cod ++ z :: (r.cod ++ rest)) := by rw [e0]; simp
  have e4 : C = (pre ++ x :: (b.cod ++ y :: c.cod)) ++ z :: (r.cod ++ rest) := by rw [e0]; simp
  have e5 : C = (pre ++ x :: (b.cod ++ y :: (c.cod ++ [z]))) ++ (r.cod ++ rest) := by rw [e0]; simp
  obtain ⟨h1, h2⟩ := op_at e0 hp
  obtain ⟨k1, k2⟩ := op_at e2 (i := i + 1 + b.len) (by simp [Sy.len_cod]; omega)
  obtain ⟨m1, m2⟩ := op_at e4 (i := i + 1 + b.len + 1 + c.len) (by simp [Sy.len_cod]; omega)
  obtain ⟨x0, X1, x1, X2, x2, X3, rfl, hX1, hX2, hX3⟩ : ∃ x0 X1 x1 X2 x2 X3, X = x0 :: (X1 ++ x1 :: (X2 ++ x2 :: X3)) ∧ X1.length = b.len ∧ X2.length = c.len ∧ X3.length = r.len := by
   cases X with
   | nil => simp [Sy.len] at hX
   | cons a l =>
    have hl : l.length = b.len + c.len + r.len + 2 := by simp [Sy.len] at hX; omega
    have h2 : (l.drop b.len).length = c.len + r.len + 2 := by simp; omega
    cases hc : l.drop b.len with
    | nil => rw [hc] at h2; simp at h2
    | cons y t =>
     rw [hc] at h2
     simp at h2
     have h3 : (t.drop c.len).length = r.len + 1 := by simp; omega
     cases hc2 : t.drop c.len with
     | nil => rw [hc2] at h3; simp at h3
     | cons y2 t2 => exact ⟨a, l.take b.len, y, t.take c.len, y2, t2, by rw [← hc2, List.take_append_drop, ← hc, List.take_append_drop], by simp; omega, by simp; omega, by rw [hc2] at h3; simpa using h3⟩
  have hb := ih1 ((m + r.len + 1 + c.len) + 1) (i + 1) ((i, -1) :: st) (A ++ [-1]) X1 (x1 :: (X2 ++ x2 :: X3) ++ B) (pre ++ [x]) _ e1 (by simp; omega) (by simp only [inLoop]; rw [h1, w1]; exact w4) (by simp; omega) (by simp; omega) hX1
  have hc := ih2 ((m + r.len) + 1) (i + b.len + 2) ((i, ((i + 1 + b.len : Nat) : Int)) :: st) (A ++ (((i + b.len + 1 : Nat) : Int) :: (b.prt false (i + 1) (-1) ++ [-1]))) X2 (x2 :: X3 ++ B) _ _ e3 (by simp [Sy.len_cod]; omega) (by simp only [inLoop]; rw [h1, w1]; exact w5) (by simp; omega) (by simp [Sy.len_prt]; omega) hX2
  have hr := ih3 m (i + b.len + c.len + 3) st (A ++ (((i + b.len + 1 : Nat) : Int) :: (b.prt false (i + 1) (-1) ++ ((i + b.len + c.len + 2 : Nat) : Int) :: (c.prt false (i + b.len + 2) (-1) ++ [(i : Int)])))) X3 B _ rest e5 (by simp [Sy.len_cod]; omega) w6 (by omega) (by simp [Sy.len_prt]; omega) hX3
  rw [show m + (Sy.ife x b y c z r).len = ((m + r.len + 1 + c.len) + 1 + b.len) + 1 by simp [Sy.len]; omega]
  rw [runM_succ]
  rw [show A ++ (x0 :: (X1 ++ x1 :: (X2 ++ x2 :: X3)) ++ B) = A ++ x0 :: (X1 ++ (x1 :: (X2 ++ x2 :: X3) ++ B)) by simp, set_at A x0 _ _ i hA]
  have hst : ∀ o, stepM C i st o = some ((i, -1) :: st, o) := fun o => by
   unfold stepM
   rw [h1, if_pos (by omega), if_neg (by omega)]
  rw [hst]
  simp only
  rw [show A ++ -1 :: (X1 ++ (x1 :: (X2 ++ x2 :: X3) ++ B)) = (A ++ [-1]) ++ (X1 ++ (x1 :: (X2 ++ x2 :: X3) ++ B)) by simp, hb]
  rw [runM_succ]
  rw [show A ++ [-1] ++ (b.prt false (i + 1) (-1) ++ (x1 :: (X2 ++ x2 :: X3) ++ B)) = (A ++ -1 :: b.prt false (i + 1) (-1)) ++ x1 :: (X2 ++ x2 :: X3 ++ B) by simp]
  rw [set_at _ x1 _ _ (i + 1 + b.len) (by simp [Sy.len_prt]; omega)]
  have hst2 : stepM C (i + 1 + b.len) ((i, -1) :: st) ((A ++ -1 :: b.prt false (i + 1) (-1)) ++ -1 :: (X2 ++ x2 :: X3 ++ B)) = some ((i, ((i + 1 + b.len : Nat) : Int)) :: st, (A ++ (((i + b.len + 1 : Nat) : Int) :: (b.prt false (i + 1) (-1) ++ [-1]))) ++ (X2 ++ (x2 :: X3 ++ B))) := by
   unfold stepM
   rw [k1, w2, if_neg (by omega), if_pos rfl]
   simp only
   rw [h1, if_neg (by omega), List.append_assoc, List.cons_append, set_at A _ _ _ i hA]
   simp [show i + 1 + b.len = i + b.len + 1 by omega]
  rw [hst2]
  simp only
  rw [show i + 1 + b.len + 1 = i + b.len + 2 by omega, show m + r.len + 1 + c.len = (m + r.len) + 1 + c.len by omega, hc]
  rw [runM_succ]
  rw [show (A ++ (((i + b.len + 1 : Nat) : Int) :: (b.prt false (i + 1) (-1) ++ [-1]))) ++ (c.prt false (i + b.len + 2) (-1) ++ (x2 :: X3 ++ B)) = (A ++ ((i + b.len + 1 : Nat) : Int) :: (b.prt false (i + 1) (-1) ++ -1 :: c.prt false (i + b.len + 2) (-1))) ++ x2 :: (X3 ++ B) by simp]
  rw [set_at _ x2 _ _ (i + b.len + 2 + c.len) (by simp [Sy.len_prt]; omega)]
  have hst3 : stepM C (i + b.len + 2 + c.len) ((i, ((i + 1 + b.len : Nat) : Int)) :: st) ((A ++ ((i + b.len + 1 : Nat) : Int) :: (b.prt false (i + 1) (-1) ++ -1 :: c.prt false (i + b.len + 2) (-1))) ++ -1 :: (X3 ++ B)) = some (st, (A ++ (((i + b.len + 1 : Nat) : Int) :: (b.prt false (i + 1) (-1) ++ ((i + b.len + c.len + 2 : Nat) : Int) :: (c.prt false (i + b.len + 2) (-1) ++ [(i : Int)])))) ++ (X3 ++ B)) := by
   unfold stepM
   rw [show i + b.len + 2 + c.len = i + 1 + b.len + 1 + c.len by omega, m1, w3, if_neg (by omega), if_neg (by omega), if_neg (by omega), if_pos rfl]
   simp only
   rw [if_pos (by omega), set_at _ _ _ _ (i + 1 + b.len + 1 + c.len) (by simp [Sy.len_prt]; omega)]
   rw [show (A ++ ((i + b.len + 1 : Nat) : Int) :: (b.prt false (i + 1) (-1) ++ -1 :: c.prt false (i + b.len + 2) (-1))) ++ (i : Int) :: (X3 ++ B) = (A ++ ((i + b.len + 1 : Nat) : Int) :: b.prt false (i + 1) (-1)) ++ -1 :: (c.prt false (i + b.len + 2) (-1) ++ (i : Int) :: (X3 ++ B)) by simp]
   rw [set_at _ _ _ _ _ (by simp [Sy.len_prt]; omega)]
   simp [show i + 1 + b.len + 1 + c.len = i + b.len + c.len + 2 by omega]
  rw [hst3]
  simp only
  rw [show i + b.len + 2 + c.len + 1 = i + b.len + c.len + 3 by omega, hr]
  simp only [Sy.len, Sy.prt]
  rw [show i + b.len + c.len + 3 + r.len = i + (b.len + c.len + r.len + 3) by omega]
  simp
theorem op_drop {C R : List (Int × Int)} {x : Int × Int} {i : Nat} (h : C.drop i = x :: R) : i < C.length ∧ opAtFl C i = x.1 ∧ C.drop (i + 1) = R := by
 have hi : i < C.length := by
  apply Nat.lt_of_not_le
  intro hn
  rw [List.drop_of_length_le hn] at h
  cases h
 rw [List.drop_eq_getElem_cons hi] at h
 cases h
 exact ⟨hi, by simp [opAtFl, List.getD, List.getElem?_eq_getElem hi], rfl⟩
theorem sound_blk (C : List (Int × Int)) (f : Nat) (i d : Nat) (L : Bool) (P lv : List Int) (r : T × Nat × List Int × List Int) (hi : i < C.length) (hd : d ≤ 8) (hb : opAtFl C i = 27 ∨ opAtFl C i = 29) (h : blkF C (lstF C f) i (d + 1) L P lv = .ok r) :
  ∃ S : Sy, C.drop i = S.cod ++ C.drop r.2.1 ∧ S.wf L ∧ d + S.dep ≤ 8 ∧ r.2.1 = i + S.len ∧ r.2.1 ≤ C.length := by
 obtain ⟨b, j, P', lv'⟩ := r
 have hx : C.drop i = C[i] :: C.drop (i + 1) := List.drop_eq_getElem_cons (by omega)
 have ho : opAtFl C i = (C[i]).1 := (op_drop hx).2.1
 generalize C[i] = x at hx ho
 unfold blkF at h
 split at h
 ·cases h
 next hd8 =>
 rw [ho] at h hb
 split at h
 ·cases h
 next body j1 P1 lv1 h1 =>
 have g1 := lst_ge C f _ _ _ _ _ _ _ (by omega) h1
 obtain ⟨B, rb, b1, b2, b3, b4, b5⟩ := sound C f _ _ _ _ _ _ _ (by omega) (by omega) h1
 simp only at b5 g1
 have hdj : C.drop j1 = rb := by rw [b5, ← List.drop_drop, b1, ← Sy.len_cod]; simp
 split at h
 next hc =>
  obtain ⟨c1, c2, c3⟩ := hc
  split at h
  ·cases h
  next oth k P2 lv2 h2 =>
  have g2 := lst_ge C f _ _ _ _ _ _ _ (by omega) h2
  obtain ⟨Cc, rc, d1, d2, d3, d4, d5⟩ := sound C f _ _ _ _ _ _ _ (by omega) (by omega) h2
  simp only at d5 g2
  have hy : C.drop j1 = C[j1] :: C.drop (j1 + 1) := List.drop_eq_getElem_cons c2
  have hyo : opAtFl C j1 = (C[j1]).1 := (op_drop hy).2.1
  generalize C[j1] = y at hy hyo
  have hdk : C.drop k = rc := by rw [d5, ← List.drop_drop, d1, ← Sy.len_cod]; simp
  unfold finF at h
  split at h
  next hk =>
   obtain ⟨hk1, hk2⟩ := hk
   simp only [Except.ok.injEq, Prod.mk.injEq] at h
   obtain ⟨-, rfl, -, -⟩ := h
   have hz : C.drop k = C[k] :: C.drop (k + 1) := List.drop_eq_getElem_cons hk1
   have hzo : opAtFl C k = (C[k]).1 := (op_drop hz).2.1
   generalize C[k] = z at hz hzo
   refine ⟨.ife x B y Cc z .nil, ?_, ⟨c1, by rw [← hyo]; exact c3, by rw [← hzo]; exact hk2, by simpa [c1] using b3, d3, trivial⟩, by simp only [Sy.dep]; omega, by simp only [Sy.len]; omega, by simp only; omega⟩
   rw [hx, b1, ← hdj, hy, d1, ← hdk, hz]
   simp [Sy.cod]
  ·cases h
 next hc =>
  unfold finF at h
  split at h
  next hk =>
   obtain ⟨hk1, hk2⟩ := hk
   simp only [Except.ok.injEq, Prod.mk.injEq] at h
   obtain ⟨-, rfl, -, -⟩ := h
   have hz : C.drop j1 = C[j1] :: C.drop (j1 + 1) := List.drop_eq_getElem_cons hk1
   have hzo : opAtFl C j1 = (C[j1]).1 := (op_drop hz).2.1
   generalize C[j1] = z at hz hzo
   refine ⟨.blk x B z .nil, ?_, ⟨hb, by rw [← hzo]; exact hk2, b3, trivial⟩, by simp only [Sy.dep]; omega, by simp only [Sy.len]; omega, by simp only; omega⟩
   rw [hx, b1, ← hdj, hz]
   simp [Sy.cod]
  ·cases h
theorem runM_pass (C : List (Int × Int)) (S : Sy) (rest : List (Int × Int)) (i : Nat) (st : Stk) (out : List Int) (hC : C.drop i = S.cod ++ rest) (hi : i ≤ C.length) (hw : S.wf (inLoop C st)) (hd : st.length + S.dep ≤ 8) (ho : out.length = C.length) :
  ∃ out2 : List Int, out2.length = C.length ∧ runM C (C.length - i) i st out = runM C (C.length - (i + S.len)) (i + S.len) st out2 := by
 have hl : C.length - i = S.len + rest.length := by rw [← List.length_drop, hC, List.length_append, Sy.len_cod]
 have e : C = C.take i ++ (S.cod ++ rest) := by rw [← hC, List.take_append_drop]
 have h := runM_sy C S (C.length - (i + S.len)) i st (out.take i) ((out.drop i).take S.len) ((out.drop i).drop S.len) (C.take i) rest e (by simp; omega) hw hd (by simp; omega) (by simp; omega)
 rw [List.take_append_drop, List.take_append_drop, show C.length - (i + S.len) + S.len = C.length - i by omega] at h
 exact ⟨_, by simp [Sy.len_prt]; omega, h⟩
theorem runM_err (C : List (Int × Int)) (f : Nat) : ∀ (i : Nat) (out : T) (P lv : List Int) (e : Nat) (st : Stk) (o : List Int), lstF C f i st.length (inLoop C st) out P lv = .error e → i ≤ C.length → C.length - i < f → st.length ≤ 8 → o.length = C.length → runM C (C.length - i) i st o = .error e := by
 induction f with
 | zero => intro i out P lv e st o h hi hf; omega
 | succ f ih =>
  intro i out P lv e st o h hi hf hd ho
  unfold lstF at h
  split at h
  ·cases h
  next hlt =>
  split at h
  ·cases h
  next hs =>
  have hm : C.length - i = (C.length - (i + 1)) + 1 := by omega
  split at h
  next hb =>
   have hpush : st.length < 8 → runM C (C.length - i) i st o = runM C (C.length - (i + 1)) (i + 1) ((i, -1) :: st) (o.set i (-1)) := fun h8 => by
    rw [hm, runM_succ]
    have : stepM C i st (o.set i (-1)) = some ((i, -1) :: st, o.set i (-1)) := by unfold stepM; rw [if_pos hb, if_neg (by omega)]
    rw [this]
   split at h
   next e' hbe =>
    cases h
    unfold blkF at hbe
    split at hbe
    next h8 =>
     cases hbe
     rw [hm, runM_succ]
     have : stepM C i st (o.set i (-1)) = none := by unfold stepM; rw [if_pos hb, if_pos (by omega)]
     rw [this]
    next h8 =>
    rw [hpush (by omega)]
    have hL : (inLoop C st || opAtFl C i == 29) = inLoop C ((i, -1) :: st) := by rw [Bool.or_comm]; rfl
    rw [hL] at hbe
    split at hbe
    next h1 =>
     cases hbe
     exact ih (i + 1) _ _ _ _ ((i, -1) :: st) _ h1 (by omega) (by omega) (by simp; omega) (by simp; omega)
    next body j1 P1 lv1 h1 =>
    have g1 := lst_ge C f _ _ _ _ _ _ _ (by omega) h1
    obtain ⟨B, rb, b1, b2, b3, b4, b5⟩ := sound C f _ _ _ _ _ _ _ (by omega) (by omega) h1
    simp only at b5 g1
    obtain ⟨o2, ho2, hrun⟩ := runM_pass C B rb (i + 1) ((i, -1) :: st) (o.set i (-1)) b1 (by omega) b3 (by simp; omega) (by simp; omega)
    rw [hrun, ← b5]
    have hdj : C.drop j1 = rb := by rw [b5, ← List.drop_drop, b1, ← Sy.len_cod]; simp
    rw [← hdj] at b2
    split at hbe
    next hc =>
     obtain ⟨c1, c2, c3⟩ := hc
     rw [show C.length - j1 = (C.length - (j1 + 1)) + 1 by omega, runM_succ]
     have : stepM C j1 ((i, -1) :: st) (o2.set j1 (-1)) = some ((i, (j1 : Int)) :: st, (o2.set j1 (-1)).set i j1) := by
      unfold stepM; rw [c3, if_neg (by omega), if_pos rfl]; simp only; rw [c1, if_neg (by omega)]
     rw [this]
     simp only
     split at hbe
     next h2 =>
      cases hbe
      refine ih (j1 + 1) .nil (P1.set i j1) lv1 _ ((i, (j1 : Int)) :: st) _ ?_ (by omega) (by omega) (by simp; omega) (by simp; omega)
      rw [show inLoop C ((i, (j1 : Int)) :: st) = inLoop C st by simp [inLoop, c1]]
      exact h2
     next oth k P2 lv2 h2 =>
     have g2 := lst_ge C f _ _ _ _ _ _ _ (by omega) h2
     obtain ⟨Cc, rc, d1, d2, d3, d4, d5⟩ := sound C f _ _ _ _ _ _ _ (by omega) (by omega) h2
     simp only at d5 g2
     obtain ⟨o3, ho3, hrun3⟩ := runM_pass C Cc rc (j1 + 1) ((i, (j1 : Int)) :: st) ((o2.set j1 (-1)).set i j1) d1 (by omega) (by rw [show inLoop C ((i, (j1 : Int)) :: st) = inLoop C st by simp [inLoop, c1]]; exact d3) (by simp; omega) (by simp; omega)
     rw [hrun3, ← d5]
     have hdk : C.drop k = rc := by rw [d5, ← List.drop_drop, d1, ← Sy.len_cod]; simp
     rw [← hdk] at d2
     unfold finF at hbe
     split at hbe
     ·cases hbe
     next hk =>
     obtain rfl : k = e := by injection hbe
     rcases d2 with d2 | ⟨z, t, d2, hz⟩
     ·have : C.length ≤ k := List.drop_eq_nil_iff.1 d2
      rw [show C.length - k = 0 by omega]
      unfold runM
      rw [if_neg (by simp)]
     ·obtain ⟨z1, z2, z3⟩ := op_drop d2
      have hz28 : opAtFl C k = 28 := by rw [z2]; rcases hz with h | h; exact h; exact absurd ⟨z1, by rw [z2]; exact h⟩ hk
      rw [show C.length - k = (C.length - (k + 1)) + 1 by omega, runM_succ]
      have : ∀ w, stepM C k ((i, (j1 : Int)) :: st) w = none := fun w => by
       unfold stepM; rw [hz28, if_neg (by omega), if_pos rfl]; simp only; rw [if_pos (by omega)]
      rw [this]
    next hc =>
     unfold finF at hbe
     split at hbe
     ·cases hbe
     next hk =>
     obtain rfl : j1 = e := by injection hbe
     rcases b2 with b2 | ⟨z, t, b2, hz⟩
     ·have : C.length ≤ j1 := List.drop_eq_nil_iff.1 b2
      rw [show C.length - j1 = 0 by omega]
      unfold runM
      rw [if_neg (by simp)]
     ·obtain ⟨z1, z2, z3⟩ := op_drop b2
      have hz28 : opAtFl C j1 = 28 := by rw [z2]; rcases hz with h | h; exact h; exact absurd ⟨z1, by rw [z2]; exact h⟩ hk
      rw [show C.length - j1 = (C.length - (j1 + 1)) + 1 by omega, runM_succ]
      have : ∀ w, stepM C j1 ((i, (-1 : Int)) :: st) w = none := fun w => by
       unfold stepM; rw [hz28, if_neg (by omega), if_pos rfl]; simp only; rw [if_pos (by left; intro h27; exact hc ⟨h27, z1, hz28⟩)]
      rw [this]
   next b j P' lv' hbo =>
    obtain ⟨S, a1, a2, a3, a4, a5⟩ := sound_blk C f i st.length _ _ _ _ (by omega) hd hb hbo
    simp only at a1 a4 a5
    obtain ⟨o2, ho2, hrun⟩ := runM_pass C S _ i st o a1 hi a2 (by omega) ho
    rw [hrun, ← a4]
    have hS : 0 < S.len := by
     rw [← Sy.len_cod]
     cases hc : S.cod with
     | nil =>
      exfalso
      have hj : j = i := by rw [a4, ← Sy.len_cod, hc]; simp
      subst hj
      unfold blkF at hbo
      split at hbo
      ·cases hbo
      split at hbo
      ·cases hbo
      next h1 =>
      have g1 := lst_ge C f _ _ _ _ _ _ _ (by omega) h1
      split at hbo
      ·split at hbo
       ·cases hbo
       next h2 =>
       have g2 := lst_ge C f _ _ _ _ _ _ _ (by omega) h2
       unfold finF at hbo
       split at hbo
       ·simp only [Except.ok.injEq, Prod.mk.injEq] at hbo
        simp only at g1 g2
        omega
       ·cases hbo
      ·unfold finF at hbo
       split at hbo
       ·simp only [Except.ok.injEq, Prod.mk.injEq] at hbo
        simp only at g1
        omega
       ·cases hbo
     | cons => simp
    exact ih j _ _ _ _ st _ h a5 (by omega) hd ho2
  next hb =>
  split at h
  next h30 =>
   cases h
   rw [hm, runM_succ]
   have : ∀ w, stepM C i st w = none := fun w => by
    unfold stepM; rw [h30.1, if_neg (by omega), if_neg (by omega), if_pos rfl, if_neg (by rw [h30.2]; simp)]
   rw [this]
  next h30 =>
   rw [hm, runM_succ]
   have : ∀ w, stepM C i st w = some (st, w) := fun w => by
    unfold stepM
    rw [if_neg hb, if_neg (by omega)]
    by_cases h3 : opAtFl C i = 30
    ·rw [if_pos h3, if_pos (by cases hc : inLoop C st with | true => rfl | false => exact absurd ⟨h3, hc⟩ h30)]
    ·rw [if_neg h3, if_neg (by omega)]
   rw [this]
   exact ih (i + 1) _ _ _ _ st _ h (by omega) (by omega) hd (by simp; omega)
def wholeF (C : List (Int × Int)) : Except Nat (T × List Int) :=
 match lstF C (C.length + 1) 0 0 false .nil (List.replicate C.length (-1)) [] with
 | .error e => .error e
 | .ok (t, j, P, _) => if j = C.length then .ok (t, P) else .error j
theorem whole_of (S : Sy) (hw : S.wf false) (hd : S.dep ≤ 8) : wholeF S.cod = .ok (S.tr 0 .nil, S.prt true 0 (-1)) := by
 have h := complete S.cod S 0 false 0 (S.cod.length + 1) .nil [] [] [] [] [] (by simp) rfl (Or.inl rfl) hw (by omega) rfl (by omega)
 unfold wholeF
 simp only [List.nil_append, List.append_nil, Nat.zero_add] at h
 rw [Sy.len_cod] at h ⊢
 rw [h]
 simp
theorem whole_law (C : List (Int × Int)) : (∃ S : Sy, C = S.cod ∧ S.wf false ∧ S.dep ≤ 8 ∧ ∀ o : List Int, o.length = C.length → runM C C.length 0 [] o = .ok (S.prt false 0 (-1))) ∨
  (∃ e, wholeF C = .error e ∧ e ≤ C.length ∧ ∀ o : List Int, o.length = C.length → runM C C.length 0 [] o = .error e) := by
 cases h : lstF C (C.length + 1) 0 0 false .nil (List.replicate C.length (-1)) [] with
 | error e =>
  have he : e ≤ C.length := by
   have h1 := runM_err C _ 0 _ _ _ _ [] (List.replicate C.length 0) h (Nat.zero_le _) (by omega) (by simp) (by simp)
   have : ∀ (m i : Nat) (st : Stk) (o : List Int), runM C m i st o = .error e → e ≤ i + m := by
    intro m
    induction m with
    | zero => intro i st o h; unfold runM at h; split at h; cases h; cases h; omega
    | succ m ih =>
     intro i st o h
     rw [runM_succ] at h
     split at h
     ·cases h; omega
     ·have := ih _ _ _ h; omega
   have := this _ _ _ _ h1
   omega
  refine Or.inr ⟨e, by unfold wholeF; rw [h], he, fun o ho => ?_⟩
  have := runM_err C _ 0 _ _ _ _ [] o h (Nat.zero_le _) (by omega) (by simp) ho
  exact this
 | ok r =>
  obtain ⟨S, rest, a1, a2, a3, a4, a5⟩ := sound C _ _ _ _ _ _ _ _ (Nat.zero_le _) (by omega) h
  obtain ⟨t, j, P, lv⟩ := r
  simp only [Nat.zero_add] at a5
  simp only [List.drop_zero] at a1
  rcases a2 with rfl | ⟨x, R, rfl, hx⟩
  ·refine Or.inl ⟨S, by simpa using a1, a3, by omega, fun o ho => ?_⟩
   have := runM_sy C S 0 0 [] [] o [] [] [] (by simpa using a1) rfl a3 (by simp; omega) rfl (by rw [ho, a1]; simp [Sy.len_cod])
   simp only [List.nil_append, List.append_nil, Nat.zero_add] at this
   rw [show C.length = S.len by rw [a1]; simp [Sy.len_cod], this]
   rfl
  ·have hj : C.drop j = x :: R := by rw [a1, a5, ← Sy.len_cod]; simp
   obtain ⟨z1, z2, z3⟩ := op_drop hj
   refine Or.inr ⟨j, by unfold wholeF; rw [h]; simp only; rw [if_neg (by omega)], by omega, fun o ho => ?_⟩
   obtain ⟨o2, ho2, hr⟩ := runM_pass C S (x :: R) 0 [] o (by simpa using a1) (Nat.zero_le _) a3 (by simp; omega) ho
   rw [Nat.sub_zero, Nat.zero_add, ← a5] at hr
   rw [hr, show C.length - j = (C.length - (j + 1)) + 1 by omega, runM_succ]
   have : ∀ w, stepM C j [] w = none := fun w => by
    unfold stepM
    rw [z2]
    rcases hx with h | h
    ·rw [if_neg (by omega), if_pos h]
    ·rw [if_neg (by omega), if_neg (by omega), if_neg (by omega), if_pos h]
   rw [this]
end Go.Proofs.YtgjjklajipekdaaGreat
