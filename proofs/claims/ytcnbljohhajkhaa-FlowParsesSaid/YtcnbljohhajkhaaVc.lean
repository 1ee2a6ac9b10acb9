/- Layer 18: the reader's list of blocks. -/
import Derived.Test.YtcnbljohhajkhaaVb
import Derived.Deep.LoopGhost
import Derived.Deep.Cut
namespace Go.Proofs.Ytcnbljohhajkhaa
open Go.RowKit
set_option linter.unusedVariables false
set_option linter.unusedSimpArgs false
attribute [local go_sem ↓] Go.wp_at_zero Go.wp_at_succ

def LstPost (w : World) (B br : Nat) (vc : Value) (C : List (Int × Int)) (vp : Value) (q : LQ) (r : PRes) (x : Ending) (w' : World) : Prop :=
  match r with
  | .error e => x = fail e 15 ∧ Chg (SS br vp q) w w'
  | .ok (t, j, P', lv') => ∃ v cs q', x = .returned v ∧ w'.ownsRow w.heap.size 47 5 v t.len cs ∧ (∀ k ∈ SS br vp q', v.ownBlock ≠ some k) ∧
      Fr w' (fun k => w.heap.size ≤ k ∧ k ∉ SS br vp q' ∧ v.ownBlock ≠ some k) t cs ∧ St w' B br vc C vp j P' q' ∧ lqL q' = lv' ∧ LqTo w.heap.size q q' ∧ Chg (SS br vp q) w w'
def BlkPost (w : World) (B br : Nat) (vc : Value) (C : List (Int × Int)) (vp : Value) (q : LQ) (r : PRes) (x : Ending) (w' : World) : Prop :=
  match r with
  | .error e => x = fail e 15 ∧ Chg (SS br vp q) w w'
  | .ok (t, j, P', lv') => ∃ op f u vb vo q', x = .returned (.agg #[.int .i64 op, .int .i64 f, .int .i64 u, vb, vo]) ∧ t.len = 1 ∧
      Fr w' (fun k => w.heap.size ≤ k ∧ k ∉ SS br vp q') t [.int .i64 op, .int .i64 f, .int .i64 u, vb, vo] ∧ St w' B br vc C vp j P' q' ∧ lqL q' = lv' ∧ LqTo w.heap.size q q' ∧ Chg (SS br vp q) w w'
def ListOK (C : List (Int × Int)) (f : Nat) : Prop := ∀ (w : World) (B br : Nat) (vc vp : Value) (i d : Nat) (q : LQ) (P : List Int), St w B br vc C vp i P q → B ≤ w.heap.size → C.length ≤ 1024 → i ≤ C.length → C.length - i < f → d ≤ 8 → (lqL q).length ≤ i →
  Calls Try.prog 35 #[.pointer (some ⟨br, 0, none⟩), .int .i64 d, lqV q] w (LstPost w B br vc C vp q (lstF C f i d q.isSome .nil P (lqL q)))
def BlkOK (C : List (Int × Int)) (f : Nat) : Prop := ∀ (w : World) (B br : Nat) (vc vp : Value) (i d : Nat) (q : LQ) (P : List Int), St w B br vc C vp i P q → B ≤ w.heap.size → C.length ≤ 1024 → i < C.length → C.length - i ≤ f → d ≤ 9 → (lqL q).length ≤ i →
  Calls Try.prog 41 #[.pointer (some ⟨br, 0, none⟩), .int .i64 d, lqV q] w (BlkPost w B br vc C vp q (blkF C (lstF C f) i d q.isSome P (lqL q)))
theorem lst_ge (C : List (Int × Int)) (f : Nat) : ∀ (i d : Nat) (L : Bool) (out : T) (P lv : List Int) (r : T × Nat × List Int × List Int), i ≤ C.length → lstF C f i d L out P lv = .ok r → i ≤ r.2.1 ∧ r.2.1 ≤ C.length ∧ (lv.length ≤ i → r.2.2.2.length ≤ r.2.1) := by
  induction f with
  | zero => intro i d L out P lv r hi h; simp [lstF] at h
  | succ f ih =>
    intro i d L out P lv r hi h
    unfold lstF at h
    split at h
    · cases h; exact ⟨Nat.le_refl _, hi, fun h => h⟩
    next hlt =>
    split at h
    · cases h; exact ⟨Nat.le_refl _, hi, fun h => h⟩
    split at h
    · split at h
      · cases h
      next b j P' lv' hb =>
      have hj : i + 1 ≤ j ∧ j ≤ C.length ∧ (lv.length ≤ i → lv'.length ≤ j) := by
        unfold blkF at hb
        split at hb
        · cases hb
        split at hb
        · cases hb
        next body j1 P1 lv1 h1 =>
        have a1 := ih _ _ _ _ _ _ _ (by omega) h1
        simp only at a1
        have fin : ∀ last k oth P l LV, i + 1 ≤ k → (LV.length ≤ i → opAt C i ≠ 29 → l.length ≤ k) → finF C (opAt C i) i last k body oth P l LV = .ok (b, j, P', lv') → i + 1 ≤ j ∧ j ≤ C.length ∧ (LV.length ≤ i → lv'.length ≤ j) := by
          intro last k oth P l LV hk hl h2
          unfold finF at h2
          split at h2
          next hc =>
            simp only [Except.ok.injEq, Prod.mk.injEq] at h2
            obtain ⟨-, rfl, -, rfl⟩ := h2
            refine ⟨by omega, hc.1, fun h => ?_⟩
            split
            · omega
            next h29 => have := hl h h29; omega
          · cases h2
        split at hb
        next hc =>
          split at hb
          · cases hb
          next oth k P2 lv2 h2 =>
          have a2 := ih _ _ _ _ _ _ _ (by omega) h2
          simp only at a2
          exact fin _ _ _ _ _ _ (by omega) (fun h h29 => a2.2.2 (by have := a1.2.2 (by rw [if_neg h29]; omega); omega)) hb
        · exact fin _ _ _ _ _ _ (by omega) (fun h h29 => a1.2.2 (by rw [if_neg h29]; omega)) hb
      have a2 := ih _ _ _ _ _ _ _ hj.2.1 h
      exact ⟨by omega, a2.2.1, fun h => a2.2.2 (hj.2.2 h)⟩
    split at h
    · cases h
    · have a2 := ih _ _ _ _ _ _ _ (by omega) h
      refine ⟨by omega, a2.2.1, fun h => a2.2.2 ?_⟩
      split
      · simp; omega
      · omega

theorem mem_lq {s : Nat} {q q' : LQ} (h : LqTo s q q') {k : Nat} (hk : k ∈ lqS q') : k ∈ lqS q ∨ s ≤ k := by
  match q, h with
  | none, h => cases h; simp [lqS] at hk
  | some (bl, vs, l), h =>
    obtain ⟨vs', l', rfl, h2⟩ := h
    simp only [lqS, List.mem_cons, Option.mem_toList] at hk ⊢
    rcases hk with rfl | hk
    · exact Or.inl (Or.inl rfl)
    · rcases h2 k hk with h | h
      · exact Or.inl (Or.inr h)
      · exact Or.inr h
theorem mem_ss {s br : Nat} {vp : Value} {q q' : LQ} (h : LqTo s q q') {k : Nat} (hk : k ∈ SS br vp q') : k ∈ SS br vp q ∨ s ≤ k := by
  simp only [SS, List.mem_cons, List.mem_append] at hk ⊢
  rcases hk with h1 | h1 | h1
  · exact Or.inl (Or.inl h1)
  · exact Or.inl (Or.inr (Or.inl h1))
  · rcases mem_lq h h1 with h2 | h2
    · exact Or.inl (Or.inr (Or.inr h2))
    · exact Or.inr h2
theorem LqTo.trans {s s' : Nat} {q q' q'' : LQ} (h : LqTo s q q') (k : LqTo s' q' q'') (hs : s ≤ s') : LqTo s q q'' := by
  match q, h with
  | none, h => cases h; exact k
  | some (bl, vs, l), h =>
    obtain ⟨vs', l', rfl, h2⟩ := h
    obtain ⟨vs'', l'', rfl, k⟩ := k
    refine ⟨vs'', l'', rfl, fun j hj => ?_⟩
    rcases k j hj with h1 | h1
    · exact h2 j h1
    · exact Or.inr (Nat.le_trans hs h1)
theorem LqTo.refl (s : Nat) (q : LQ) : LqTo s q q := by
  match q with
  | none => rfl
  | some (bl, vs, l) => exact ⟨vs, l, rfl, fun k hk => Or.inl hk⟩
theorem LqTo.same {s : Nat} {q q' : LQ} (h : LqTo s q q') : lqV q' = lqV q ∧ q'.isSome = q.isSome := by
  match q, h with
  | none, h => cases h; exact ⟨rfl, rfl⟩
  | some (bl, vs, l), h => obtain ⟨vs', l', rfl, h⟩ := h; exact ⟨rfl, rfl⟩
theorem SS_lt {w : World} {B br : Nat} {vc vp : Value} {C : List (Int × Int)} {i : Nat} {P : List Int} {q : LQ} (h : St w B br vc C vp i P q) {k : Nat} (hk : k ∈ SS br vp q) : k < w.heap.size := by
  simp only [SS, List.mem_cons, List.mem_append, Option.mem_toList] at hk
  rcases hk with rfl | h1 | h1
  · exact h.rd.lt
  · exact (own_lt h.parts h1).2
  · match q, h.leaves, h1 with
    | none, _, h1 => simp [lqS] at h1
    | some (bl, vs, l), hl, h1 =>
      simp only [lqS, List.mem_cons, Option.mem_toList] at h1
      rcases h1 with rfl | h1
      · exact hl.1.lt
      · exact (own_lt hl.2 h1).2

/-- The state of the reader's loop: the blocks read so far, and what they stand beside. -/
structure LS (w wr : World) (B br : Nat) (vc : Value) (C : List (Int × Int)) (vp : Value) (q q' : LQ) (v : Value) (m : Nat) (out : T) (cs : List Value) (i : Nat) (P : List Int) : Prop where
  own : wr.ownsRow w.heap.size 47 5 v m cs
  off : ∀ k ∈ SS br vp q', v.ownBlock ≠ some k
  fr : Fr wr (fun k => w.heap.size ≤ k ∧ k ∉ SS br vp q' ∧ v.ownBlock ≠ some k) out cs
  st : St wr B br vc C vp i P q'
  to : LqTo w.heap.size q q'
  chg : Chg (SS br vp q) w wr
  len : out.len = m
theorem LS.start {w : World} {B br : Nat} {vc : Value} {C : List (Int × Int)} {vp : Value} {q : LQ} {i : Nat} {P : List Int} (h : St w B br vc C vp i P q) : LS w w B br vc C vp q q (.slice none 0 0) 0 .nil [] i P :=
  ⟨World.ownsRow_nil _ _ _ _, fun k _ e => by simp [Value.ownBlock] at e, rfl, h, LqTo.refl _ _, Chg.refl _ _, rfl⟩
theorem LS.step {w wr w1 : World} {B br : Nat} {vc : Value} {C : List (Int × Int)} {vp : Value} {q q' q'' : LQ} {v : Value} {m : Nat} {out : T} {cs : List Value} {i i1 : Nat} {P P1 : List Int} {S : List Nat}
    (h : LS w wr B br vc C vp q q' v m out cs i P) (c : Chg S wr w1) (hS : ∀ x ∈ S, x ∈ SS br vp q' ∨ wr.heap.size ≤ x) (k : St w1 B br vc C vp i1 P1 q'') (hq : LqTo wr.heap.size q' q'') : LS w w1 B br vc C vp q q'' v m out cs i1 P1 := by
  have hm : ∀ x ∈ S, v.ownBlock ≠ some x := fun x hx e => by
    rcases hS x hx with h1 | h1
    · exact h.off x h1 e
    · have := (own_lt h.own e).2; omega
  have hn : ∀ k, k < wr.heap.size → k ∉ SS br vp q' → k ∉ SS br vp q'' := fun k hk hk' hm => by
    rcases mem_ss hq hm with h1 | h1
    · exact hk' h1
    · omega
  refine ⟨own_chg h.own c hm, fun x hx e => ?_, h.fr.chg (S := S.filter (· < wr.heap.size)) ⟨c.os, c.tape, c.output, c.size, fun j hj hs => c.block j hj (fun hm => hs (by simp [hm, hj]))⟩ (fun x hx hQ => ?_) (fun x hx hQ => ⟨hQ.1, hn x hx hQ.2.1, hQ.2.2⟩), k, h.to.trans hq h.chg.size, h.chg.trans c (fun x hx => ?_), h.len⟩
  · have hl := (own_lt h.own e).2
    rcases mem_ss hq hx with h1 | h1
    · exact h.off x h1 e
    · omega
  · simp only [List.mem_filter, decide_eq_true_eq] at hx
    rcases hS x hx.1 with h1 | h1
    · exact hQ.2.1 h1
    · omega
  · rcases hS x hx with h1 | h1
    · exact mem_ss h.to h1
    · exact Or.inr (Nat.le_trans h.chg.size h1)
theorem St.move {w w1 : World} {B br : Nat} {vc : Value} {C : List (Int × Int)} {vp : Value} {q : LQ} {i : Nat} {P : List Int} {S : List Nat} (h : St w B br vc C vp i P q) (c : Chg S w w1) (hS : ∀ x ∈ S, x ∉ SS br vp q) (hB : ∀ x ∈ S, B ≤ x) : St w1 B br vc C vp i P q := by
  refine ⟨h.rd.chg c (fun hm => hS br hm (by simp [SS])), h.code.chg c (fun x hx hn e => by have := h.off hn x e; have := hB x hx; omega), h.off, own_chg h.parts c (fun x hx e => hS x hx (by simp [SS, e])), h.plen, ?_, h.nodup, h.above⟩
  match q, h.leaves, hS with
  | none, _, _ => trivial
  | some (bl, vs, l), hl, hS => exact ⟨hl.1.chg c (fun hm => hS bl hm (by simp [SS, lqS])), own_chg hl.2 c (fun x hx e => hS x hx (by simp [SS, lqS, e]))⟩
theorem St.ext {w w1 : World} {B br : Nat} {vc : Value} {C : List (Int × Int)} {vp : Value} {q : LQ} {i : Nat} {P : List Int} (h : St w B br vc C vp i P q) (c : Ext w w1) : St w1 B br vc C vp i P q := h.move (Chg.of_ext [] c) (by simp) (by simp)
theorem St.bump {w : World} {B br : Nat} {vc : Value} {C : List (Int × Int)} {vp : Value} {q : LQ} {i : Nat} {P : List Int} (h : St w B br vc C vp i P q) (j : Nat) : St (w.setCell ⟨br, 1, none⟩ (.int .i64 j)) B br vc C vp j P q := by
  have c : Chg [br] w (w.setCell ⟨br, 1, none⟩ (.int .i64 j)) := (Chg.refl _ w).setCell (Or.inl (by simp)) _
  have nd := h.nodup
  simp only [SS, List.nodup_cons, List.mem_append, not_or, Option.mem_toList] at nd
  refine ⟨h.rd.set 1 _, h.code.chg c (fun x hx hn e => by have := h.off hn x e; have := h.above br (by simp [SS]); simp at hx; omega), h.off, own_chg h.parts c (fun x hx e => by simp at hx; subst hx; exact nd.1.1 e), h.plen, ?_, h.nodup, h.above⟩
  match q, h.leaves, nd with
  | none, _, _ => trivial
  | some (bl, vs, l), hl, nd =>
    simp only [lqS, List.mem_cons, not_or, Option.mem_toList] at nd
    exact ⟨hl.1.chg c (by simp; exact fun e => nd.1.2.1 e.symm), own_chg hl.2 c (fun x hx e => by simp at hx; subst hx; exact nd.1.2.2 e)⟩
theorem LS.bump {w wr : World} {B br : Nat} {vc : Value} {C : List (Int × Int)} {vp : Value} {q q' : LQ} {v : Value} {m : Nat} {out : T} {cs : List Value} {i : Nat} {P : List Int} (h : LS w wr B br vc C vp q q' v m out cs i P) (j : Nat) :
    LS w (wr.setCell ⟨br, 1, none⟩ (.int .i64 j)) B br vc C vp q q' v m out cs j P :=
  h.step (S := [br]) ((Chg.refl _ wr).setCell (Or.inl (by simp)) _) (by simp [SS]) (h.st.bump j) (LqTo.refl _ _)
theorem LS.drew {w wr : World} {B br : Nat} {vc : Value} {C : List (Int × Int)} {vp : Value} {q q' : LQ} {v : Value} {m : Nat} {out : T} {cs : List Value} {i : Nat} {P : List Int} (h : LS w wr B br vc C vp q q' v m out cs i P) : LS w wr.drew B br vc C vp q q' v m out cs i P :=
  h.step (S := []) (Chg.refl _ wr).drew (by simp) (h.st.ext (Ext.refl wr).drew) (LqTo.refl _ _)
end Go.Proofs.Ytcnbljohhajkhaa
