/- Decode of package instruction: what its memory holds. -/
import Derived.Test.YtchkbidekmaaiaaJs
import Derived.Deep.RegionLaw
import Derived.RegionTactic
import Derived.Outline
namespace Go.Proofs.Ytchkbidekmaaiaa
open Go.RowKit
set_option linter.unusedVariables false
attribute [local go_sem ↓] Go.wp_at_zero Go.wp_at_succ

theorem arrInfo : (Try.prog.info? 72).map (fun i => (i.zero, i.size, i.bytes)) = some (some (.agg #[.bool false, .int .i64 0]), 2, 16) := by kernel_rfl
theorem insInfo : (Try.prog.info? 53).map (fun i => (i.zero, i.size, i.bytes)) = some (some (.agg #[.int .i64 0, .int .u32 0]), 2, 16) := by kernel_rfl
def DecPost (w : World) (r : Dec) (x : Ending) (w' : World) : Prop :=
  ∃ vA vC v, x = .returned (.tuple #[.agg #[vA, .int .i64 r.L, vC], v, .int .i64 r.e]) ∧ w'.ownsRow w.heap.size 72 2 vA r.A.length (r.A.flatMap cA) ∧ w'.ownsRow w.heap.size 53 2 vC r.C.length (r.C.flatMap cI) ∧ Own8 w' w.heap.size v r.r ∧ Ext w w'
theorem rdr_chg {S : List Nat} {w w' : World} {q : Nat} {v : Value} {T : List Int} {e : Int} (h : Rdr w q v T e) (k : Chg S w w') (hq : q ∉ S) (hS : ∀ x ∈ S, Av v T x) : Rdr w' q v T e :=
  ⟨h.blk.chg k hq, Rd.chg h.rd k (fun x hx hn => hS x hx hn)⟩
theorem rdr_ext {w w' : World} {q : Nat} {v : Value} {T : List Int} {e : Int} (h : Rdr w q v T e) (k : Ext w w') : Rdr w' q v T e := rdr_chg h (Chg.of_ext [] k) (by simp) (by simp)
theorem av_new {w : World} {v : Value} {T : List Int} (h : Rd8 w v T) {p : Nat} (hp : w.heap.size ≤ p) : Av v T p := Rd.off h hp

def nilP : List Value := [.slice none 0 0, .int .i64 0, .slice none 0 0]
/-- Where Decode stands: its reader, its program, its result. -/
structure St (w W : World) (v vA vC : Value) (S : List Int) (e : Int) (A : List (Bool × Int)) (L : Int) (C : List (Int × Int)) : Prop where
  rdr : Rdr W (w.heap.size + 1) v S e
  f0 : Av v S w.heap.size
  f2 : Av v S (w.heap.size + 1 + 1)
  fA : ∀ g, vA.ownBlock = some g → Av v S g
  fC : ∀ g, vC.ownBlock = some g → Av v S g
  p : Blk W (w.heap.size + 1 + 1) 33 [vA, .int .i64 L, vC]
  oA : W.ownsRow (w.heap.size + 1 + 1 + 1) 72 2 vA A.length (A.flatMap cA)
  oC : W.ownsRow (w.heap.size + 1 + 1 + 1) 53 2 vC C.length (C.flatMap cI)
  r : Blk W w.heap.size 33 nilP
  ext : Ext w W
theorem own_ne_own {w : World} {B B' : Nat} {e e' : TypeId} {sz sz' n n' g : Nat} {v v' : Value} {xs xs' : List Value} (h : w.ownsRow B e sz v n xs) (h' : w.ownsRow B' e' sz' v' n' xs') (hne : e ≠ e') (hg : v.ownBlock = some g) : v'.ownBlock ≠ some g := by
  intro hg'
  rcases h.2 with ⟨rfl, _⟩ | ⟨b, cap, cur, rfl, _, hb, _⟩
  · simp [Value.ownBlock] at hg
  · rcases h'.2 with ⟨rfl, _⟩ | ⟨b', cap', cur', rfl, _, hb', _⟩
    · simp [Value.ownBlock] at hg'
    · simp [Value.ownBlock] at hg hg'
      subst hg hg'
      rw [hb] at hb'
      simp at hb'
      exact hne hb'.2
section
variable {w W W' : World} {v vA vC : Value} {S : List Int} {e L : Int} {A : List (Bool × Int)} {C : List (Int × Int)}
theorem St.chg (h : St w W v vA vC S e A L C) {X : List Nat} (k : Chg X W W') (hX : ∀ x ∈ X, w.heap.size + 1 + 1 + 1 ≤ x ∧ vA.ownBlock ≠ some x ∧ vC.ownBlock ≠ some x ∧ Av v S x) : St w W' v vA vC S e A L C where
  rdr := rdr_chg h.rdr k (fun hm => by have := (hX _ hm).1; omega) (fun x hx => (hX x hx).2.2.2)
  f0 := h.f0
  f2 := h.f2
  fA := h.fA
  fC := h.fC
  p := h.p.chg k (fun hm => by have := (hX _ hm).1; omega)
  oA := own_chg h.oA k (fun x hx => (hX x hx).2.1)
  oC := own_chg h.oC k (fun x hx => (hX x hx).2.2.1)
  r := h.r.chg k (fun hm => by have := (hX _ hm).1; omega)
  ext := ((Chg.of_ext [] h.ext).trans k (fun x hx => Or.inr (by have := (hX x hx).1; omega))).ext
theorem St.more (h : St w W v vA vC S e A L C) (k : Ext W W') : St w W' v vA vC S e A L C := h.chg (Chg.of_ext [] k) (by simp)
theorem St.num (h : St w W v vA vC S e A L C) {S' : List Int} {e' : Int} (hp : RdrPost (w.heap.size + 1) W v S S' e' W') : ∃ v', St w W' v' vA vC S' e' A L C ∧ Chg [w.heap.size + 1] W W' ∧ (∀ g, g < W.heap.size → Av v S g → Av v' S' g) := by
  obtain ⟨v', h1, hC, hA⟩ := hp
  have hlt := h.p.lt
  have ha : ∀ g, vA.ownBlock = some g → w.heap.size + 1 + 1 + 1 ≤ g ∧ g < W.heap.size := fun g hg => own_lt h.oA hg
  have hc : ∀ g, vC.ownBlock = some g → w.heap.size + 1 + 1 + 1 ≤ g ∧ g < W.heap.size := fun g hg => own_lt h.oC hg
  exact ⟨v', {
    rdr := h1
    f0 := hA _ (by omega) h.f0
    f2 := hA _ (by omega) h.f2
    fA := fun g hg => hA g (ha g hg).2 (h.fA g hg)
    fC := fun g hg => hA g (hc g hg).2 (h.fC g hg)
    p := h.p.chg hC (by simp)
    oA := own_chg h.oA hC (fun x hx hv => by simp at hx; have := (ha x hv).1; omega)
    oC := own_chg h.oC hC (fun x hx hv => by simp at hx; have := (hc x hv).1; omega)
    r := h.r.chg hC (by simp)
    ext := ((Chg.of_ext [] h.ext).trans hC (fun x hx => Or.inr (by simp at hx; omega))).ext }, hC, hA⟩
/-- A store into the program. -/
theorem St.store (h : St w W v vA vC S e A L C) (i : Nat) (u : Value) {vA' vC' : Value} {A' : List (Bool × Int)} {L' : Int} {C' : List (Int × Int)} (hu : ([vA, .int .i64 L, vC] : List Value).set i u = [vA', .int .i64 L', vC'])
    (fA : ∀ g, vA'.ownBlock = some g → Av v S g) (fC : ∀ g, vC'.ownBlock = some g → Av v S g)
    (oA : W.ownsRow (w.heap.size + 1 + 1 + 1) 72 2 vA' A'.length (A'.flatMap cA)) (oC : W.ownsRow (w.heap.size + 1 + 1 + 1) 53 2 vC' C'.length (C'.flatMap cI)) :
    St w (W.setCell ⟨w.heap.size + 1 + 1, i, none⟩ u) v vA' vC' S e A' L' C' := by
  have hC := (Chg.refl [w.heap.size + 1 + 1] W).setCell (p := ⟨w.heap.size + 1 + 1, i, none⟩) (Or.inl (by simp)) u
  exact {
    rdr := rdr_chg h.rdr hC (by simp) (by simp; exact h.f2)
    f0 := h.f0
    f2 := h.f2
    fA := fA
    fC := fC
    p := by have := h.p.set i u; rw [hu] at this; exact this
    oA := own_chg oA hC (fun x hx hv => by simp at hx; have := (own_lt oA hv).1; omega)
    oC := own_chg oC hC (fun x hx hv => by simp at hx; have := (own_lt oC hv).1; omega)
    r := h.r.chg hC (by simp; omega)
    ext := ((Chg.of_ext [] h.ext).trans hC (fun x hx => Or.inr (by simp at hx; omega))).ext }
theorem St.setL (h : St w W v vA vC S e A L C) (L' : Int) : St w (W.setCell ⟨w.heap.size + 1 + 1, 1, none⟩ (.int .i64 L')) v vA vC S e A L' C :=
  h.store 1 _ rfl h.fA h.fC h.oA h.oC
/-- An array more. -/
theorem St.grownA (h : St w W v vA vC S e A L C) {o : Obj} {W3 : World} {v3 : Value} {xs : List Value} {n : Nat} (hown : W3.ownsRow (w.heap.size + 1 + 1 + 1) 72 2 v3 n xs) (hg : (W.alloc o).grownBy W3 vA.ownBlock) (hb : v3.ownBlock = vA.ownBlock ∨ v3.ownBlock = some (W.alloc o).heap.size) (x : Bool × Int) (hn : n = A.length + 1) (hx : xs = A.flatMap cA ++ cA x) :
    Blk W3 (w.heap.size + 1 + 1) 33 [vA, .int .i64 L, vC] ∧ St w (W3.setCell ⟨w.heap.size + 1 + 1, 0, none⟩ v3) v v3 vC S e (A ++ [x]) L C := by
  have h2 := h.more ((Ext.refl W).alloc o)
  have hl : ∀ g, vA.ownBlock = some g → w.heap.size + 1 + 1 + 1 ≤ g := fun g hg => (own_lt h.oA hg).1
  have hC : Chg vA.ownBlock.toList (W.alloc o) W3 := (Chg.refl _ (W.alloc o)).grown hg (fun k hk => Or.inl (by simp [hk]))
  have hp : Blk W3 (w.heap.size + 1 + 1) 33 [vA, .int .i64 L, vC] := h2.p.chg hC (fun hm => by simp only [Option.mem_toList] at hm; have := hl _ hm; omega)
  have hr := rdr_chg h2.rdr hC (fun hm => by simp only [Option.mem_toList] at hm; have := hl _ hm; omega) (fun x hx => by simp only [Option.mem_toList] at hx; exact h.fA x hx)
  have hoC := own_chg h2.oC hC (fun x hx => by simp only [Option.mem_toList] at hx; exact own_ne_own h2.oA h2.oC (by decide) hx)
  have hf3 : ∀ g, v3.ownBlock = some g → Av v S g := by
    intro g hg
    rcases hb with hb | hb
    · exact h.fA g (hb ▸ hg)
    · rw [hb] at hg
      injection hg with hg
      exact av_new h2.rdr.rd (by omega)
  subst hn hx
  have hoA : W3.ownsRow (w.heap.size + 1 + 1 + 1) 72 2 v3 (A ++ [x]).length ((A ++ [x]).flatMap cA) := by
    rw [List.length_append, List.flatMap_append]
    simpa using hown
  have hC2 := (Chg.refl [w.heap.size + 1 + 1] W3).setCell (p := ⟨w.heap.size + 1 + 1, 0, none⟩) (Or.inl (by simp)) v3
  refine ⟨hp, {
    rdr := rdr_chg hr hC2 (by simp) (by simp; exact h.f2)
    f0 := h.f0
    f2 := h.f2
    fA := hf3
    fC := h.fC
    p := hp.set 0 v3
    oA := own_chg hoA hC2 (fun x hx hv => by simp at hx; have := (own_lt hoA hv).1; omega)
    oC := own_chg hoC hC2 (fun x hx hv => by simp at hx; have := (own_lt hoC hv).1; omega)
    r := (h2.r.chg hC (fun hm => by simp only [Option.mem_toList] at hm; have := hl _ hm; omega)).chg hC2 (by simp; omega)
    ext := (((Chg.of_ext [] h2.ext).trans hC (fun x hx => by simp only [Option.mem_toList] at hx; exact Or.inr (by have := hl _ hx; omega))).trans hC2 (fun x hx => Or.inr (by simp at hx; omega))).ext }⟩
theorem St.grownC (h : St w W v vA vC S e A L C) {o : Obj} {W3 : World} {v3 : Value} {xs : List Value} {n : Nat} (hown : W3.ownsRow (w.heap.size + 1 + 1 + 1) 53 2 v3 n xs) (hg : (W.alloc o).grownBy W3 vC.ownBlock) (hb : v3.ownBlock = vC.ownBlock ∨ v3.ownBlock = some (W.alloc o).heap.size) (x : Int × Int) (hn : n = C.length + 1) (hx : xs = C.flatMap cI ++ cI x) :
    Blk W3 (w.heap.size + 1 + 1) 33 [vA, .int .i64 L, vC] ∧ St w (W3.setCell ⟨w.heap.size + 1 + 1, 2, none⟩ v3) v vA v3 S e A L (C ++ [x]) := by
  have h2 := h.more ((Ext.refl W).alloc o)
  have hl : ∀ g, vC.ownBlock = some g → w.heap.size + 1 + 1 + 1 ≤ g := fun g hg => (own_lt h.oC hg).1
  have hC : Chg vC.ownBlock.toList (W.alloc o) W3 := (Chg.refl _ (W.alloc o)).grown hg (fun k hk => Or.inl (by simp [hk]))
  have hp : Blk W3 (w.heap.size + 1 + 1) 33 [vA, .int .i64 L, vC] := h2.p.chg hC (fun hm => by simp only [Option.mem_toList] at hm; have := hl _ hm; omega)
  have hr := rdr_chg h2.rdr hC (fun hm => by simp only [Option.mem_toList] at hm; have := hl _ hm; omega) (fun x hx => by simp only [Option.mem_toList] at hx; exact h.fC x hx)
  have hoA := own_chg h2.oA hC (fun x hx => by simp only [Option.mem_toList] at hx; exact own_ne_own h2.oC h2.oA (by decide) hx)
  have hf3 : ∀ g, v3.ownBlock = some g → Av v S g := by
    intro g hg
    rcases hb with hb | hb
    · exact h.fC g (hb ▸ hg)
    · rw [hb] at hg
      injection hg with hg
      exact av_new h2.rdr.rd (by omega)
  subst hn hx
  have hoC : W3.ownsRow (w.heap.size + 1 + 1 + 1) 53 2 v3 (C ++ [x]).length ((C ++ [x]).flatMap cI) := by
    rw [List.length_append, List.flatMap_append]
    simpa using hown
  have hC2 := (Chg.refl [w.heap.size + 1 + 1] W3).setCell (p := ⟨w.heap.size + 1 + 1, 2, none⟩) (Or.inl (by simp)) v3
  refine ⟨hp, {
    rdr := rdr_chg hr hC2 (by simp) (by simp; exact h.f2)
    f0 := h.f0
    f2 := h.f2
    fA := h.fA
    fC := hf3
    p := hp.set 2 v3
    oA := own_chg hoA hC2 (fun x hx hv => by simp at hx; have := (own_lt hoA hv).1; omega)
    oC := own_chg hoC hC2 (fun x hx hv => by simp at hx; have := (own_lt hoC hv).1; omega)
    r := (h2.r.chg hC (fun hm => by simp only [Option.mem_toList] at hm; have := hl _ hm; omega)).chg hC2 (by simp; omega)
    ext := (((Chg.of_ext [] h2.ext).trans hC (fun x hx => by simp only [Option.mem_toList] at hx; exact Or.inr (by have := hl _ hx; omega))).trans hC2 (fun x hx => Or.inr (by simp at hx; omega))).ext }⟩
end
end Go.Proofs.Ytchkbidekmaaiaa
