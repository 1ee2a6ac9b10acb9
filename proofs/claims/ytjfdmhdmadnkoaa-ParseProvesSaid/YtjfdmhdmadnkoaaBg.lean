/- The program's places: an iterator over the bits of a tape. -/
import Derived.Test.YtjfdmhdmadnkoaaBf
import Derived.RangeFuncNested
import Derived.RangeFuncBound
import Derived.RangeFuncCalls
import Derived.RangeFuncLeaves
import Derived.Shelf.Abstract
import Derived.Shelf.RegionOpen
import Derived.OwnWalkIn
import Derived.TacticsInMore
import Derived.LoopNIn
import Derived.LoopIn
namespace Go.Proofs.Ytjfdmhdmadnkoaa
open Go.RowKit Go.Shelf
set_option linter.unusedVariables false
attribute [local go_sem] Oper.semAt_some

/-- Blocks that lie as they lay. -/
def KeepS (S : List Nat) (W W' : World) : Prop := ∀ x ∈ S, W'.heap[x]? = W.heap[x]?
theorem KeepS.refl (S : List Nat) (W : World) : KeepS S W W := fun _ _ => rfl
theorem KeepS.trans {S : List Nat} {A B C : World} (h : KeepS S A B) (k : KeepS S B C) : KeepS S A C := fun x hx => (k x hx).trans (h x hx)
theorem KeepS.ext {S : List Nat} {A B : World} (h : Ext A B) (hS : ∀ x ∈ S, x < A.heap.size) : KeepS S A B := fun x hx => by
  have h' : Below A.heap.size A B := h
  exact h'.block x (hS x hx)
theorem KeepS.chg {S T : List Nat} {A B : World} (h : Chg T A B) (hS : ∀ x ∈ S, x < A.heap.size ∧ x ∉ T) : KeepS S A B := fun x hx => h.block x (hS x hx).1 (hS x hx).2
theorem keepS_b {S : List Nat} {w : World} (hS : ∀ x ∈ S, x < w.heap.size) (W : World) (l : Nat) (o o' : Obj) (hl : w.heap.size ≤ l) (_ : W.heap[l]? = some o) (_ : o.isCells = false) (_ : o.isWalk = false) : KeepS S W (W.putObj l o') :=
  fun x hx => World.putObj_heap_other (fun e => by have := hS x hx; omega)
theorem Ext.grown {A B : World} (h : Ext A B) : A.grownBy B none := by
  have h' : Below A.heap.size A B := h
  exact ⟨h'.os, h'.tape, h'.output, h'.size, fun k hk _ => h'.block k hk⟩
theorem Rd.keep {S : List Nat} {w w' : World} {sz n : Nat} {v : Value} {cs : List Value} (h : Rd w sz v n cs) (k : KeepS S w w') (hs : 0 < n → ∀ g, v.ownBlock = some g → g ∈ S) (hz : w.heap.size ≤ w'.heap.size) : Rd w' sz v n cs := by
  obtain ⟨h1, a, cap, h2, h3, h4, h5, h6⟩ := h
  refine ⟨h1, a, cap, h2, h3, h4, h5, fun hn => ?_⟩
  obtain ⟨b, off, e, hb, hc⟩ := h6 hn
  refine ⟨b, off, e, by omega, fun j hj => ?_⟩
  rw [World.cell?_of_block (w := w) (w' := w') (a := ⟨b, off + j, none⟩) (k b (hs hn b (by rw [h2, e]; rfl)))]
  exact hc j hj
theorem Blk.keep {S : List Nat} {w w' : World} {b : Nat} {t : TypeId} {cs : List Value} (h : Blk w b t cs) (k : KeepS S w w') (hs : b ∈ S) : Blk w' b t cs := by
  unfold Blk at h ⊢
  rw [k b hs]; exact h

/-- The bits from a place on. -/
def bo (D : List Int) (a k : Nat) : List Bool := (List.range k).map fun j => decide (gb D (a + j) = 1)
theorem bo_succ (D : List Int) (a k : Nat) : bo D a (k + 1) = bo D a k ++ [decide (gb D (a + k) = 1)] := by simp [bo, List.range_succ]
theorem bo_len (D : List Int) (a k : Nat) : (bo D a k).length = k := by simp [bo]
theorem bo_cut (D : List Int) (a k : Nat) : (bo D a k).map b2i = cut D a k := by
  unfold bo cut
  rw [List.map_map]
  apply List.map_congr_left
  intro j _
  show b2i (decide (gb D (a + j) = 1)) = gb D (a + j)
  rcases gb_01 D (a + j) with h | h <;> rw [h] <;> rfl

theorem places_in (x y : Int) (q : Nat) (w : World) :
    Calls Try.prog 74 #[.pointer (some ⟨q, 0, none⟩), .int .i64 x, .int .i64 y] w fun e w' =>
      e = .returned (.func (.func 76) #[] #[.pointer (some ⟨w.heap.size + 1, 0, none⟩), .pointer (some ⟨w.heap.size + 2, 0, none⟩), .pointer (some ⟨w.heap.size, 0, none⟩)]) ∧
      w' = ((w.alloc (.cells #[.pointer (some ⟨q, 0, none⟩)] 111)).alloc (.cells #[.int .i64 x] 3)).alloc (.cells #[.int .i64 y] 3) := by
  go_enter Try.func74, Try.ntmps74
  go_wp2_with fail
  go_ret
  exact ⟨rfl, rfl⟩

set_option maxRecDepth 100000 in
set_option maxHeartbeats 2000000 in
theorem places1_in (n : Nat) (hn : 2 ≤ n) (l B0 B1 B2 q : Nat) (x y : Nat) (v c : Value) (D : List Int) (hb : Bytes D) (hy1 : y ≤ 8 * D.length) (hl : D.length ≤ 65536) (S : List Nat) (hS0 : B0 ∈ S) (hS1 : B1 ∈ S) (hS2 : B2 ∈ S) (hSq : q ∈ S) (hSv : 0 < D.length → ∀ g, v.ownBlock = some g → g ∈ S)
    (J Jx : List Bool → World → Prop) (W : World) (hJ : AbidesFrom W.heap.size J) (hlt : ∀ z ∈ S, z < W.heap.size)
    (hY : ∀ pre z W1, J pre W1 → pre.length < y - x → YieldAt Fence.wide (n - 1) Try.prog l #[.bool z] W1 fun e W' =>
      (e = .returned (.bool true) ∧ J (pre ++ [z]) W' ∧ (KeepS S W1 W' ∧ W1.heap.size ≤ W'.heap.size)) ∨ (e = .returned (.bool false) ∧ Jx (pre ++ [z]) W'))
    (b0 : Blk W B0 111 [.pointer (some ⟨q, 0, none⟩)]) (b1 : Blk W B1 3 [.int .i64 (x : Int)]) (b2 : Blk W B2 3 [.int .i64 (y : Int)]) (bq : Blk W q 113 [v, c]) (hR : Rd8 W v D) (h0 : J [] W) :
    CallsIn Fence.wide n Try.prog 76 #[.func (.yield l) #[] #[], .pointer (some ⟨B1, 0, none⟩), .pointer (some ⟨B2, 0, none⟩), .pointer (some ⟨B0, 0, none⟩)] W fun e W' => (∃ v, e = .returned v) ∧
      ((∃ ys, ys = bo D x (y - x) ∧ J ys W') ∨ (∃ pre, (∃ k, k ≤ y - x ∧ pre = bo D x k) ∧ Jx pre W')) := by
  refine callsIn_of_wp Try.func76 rfl trivial ?_ rfl
  simp only [Try.ntmps76, List.size_toArray, List.length_cons, List.length_nil, Nat.reduceAdd, Nat.reduceSub, Array.replicate_succ, Array.replicate_zero, List.push_toArray, List.append_toArray, List.nil_append, List.cons_append]
  have c1 := b1.cell 0 _ rfl
  have hn1 : 1 ≤ n := by omega
  have hn2 : 1 ≤ n - 1 := by omega
  gi_wp2
  gi_loopw [5] (fun i wr => ∃ k : Nat, k ≤ y - x ∧ i = .int .i64 ((x : Int) + (k : Int)) ∧ J (bo D x k) wr ∧ KeepS S W wr ∧ W.heap.size ≤ wr.heap.size)
    (fun i _ => y - (intOf i).toNat)
  case atStart => exact ⟨0, Nat.zero_le _, by go_num, h0, KeepS.refl _ _, Nat.le_refl _⟩
  case round =>
    obtain ⟨k, hk, rfl, hJs, hK, hsz⟩ := hrel
    have d0 := (b0.keep hK hS0).cell 0 _ rfl
    have d2 := (b2.keep hK hS2).cell 0 _ rfl
    have dq := bq.keep hK hSq
    have dR := hR.keep hK hSv hsz
    by_cases hlt' : x + k < y
    · have k1 : (x : Int) + (k : Int) < (y : Int) := by omega
      have hxk : ((x : Int) + (k : Int)).toNat = x + k := by omega
      gi_wp2_with (refine ⟨trivial, ?_⟩; gi_at_call 77; refine (callsIn_wide.2 (one_any q v c D _ hb (by omega) (by omega) (by omega) _ dq dR)).mono ?_; rintro e w1 ⟨rfl, g1⟩; obtain ⟨fn, tmps, assign, body, hy, hR'⟩ := hY _ (decide (gb D (x + k) = 1)) w1 (hJ _ _ _ none hJs g1.grown (fun r e => by cases e)) (by rw [bo_len]; omega))
      refine hR'.mono ?_
      have hK1 := hK.trans (KeepS.ext g1 (fun z hz => Nat.lt_of_lt_of_le (hlt z hz) hsz))
      have hz1 := g1.size
      rintro e W3 (⟨rfl, hJ3, hk3, hz3⟩ | ⟨rfl, hJx3⟩)
      · gi_wp2
        go_roundw
        case rel => exact ⟨k + 1, by omega, by go_num, by rw [bo_succ]; exact hJ3, hK1.trans hk3, by omega⟩
        case measure => simp [intOf]; omega
      · gi_wp2
        go_end0
        exact ⟨⟨_, rfl⟩, .inr ⟨_, ⟨k + 1, by omega, (bo_succ _ _ _).symm⟩, hJx3⟩⟩
    · have k1 : ¬ (x : Int) + (k : Int) < (y : Int) := by omega
      have k2 : k = y - x := by omega
      have k2 := hidden k2
      gi_wp2
      refine ⟨trivial, ?_⟩
      gi_wp2
      refine ⟨fun _ h => (by cases h), ?_⟩
      gi_wp2
      go_end0
      exact ⟨⟨_, rfl⟩, .inl ⟨_, by rw [k2.out], hJs⟩⟩
end Go.Proofs.Ytjfdmhdmadnkoaa
