/- Layer 33: all: an iterator over the rows that have a byte. -/
import Derived.Test.YtfebgcbkadmgiaaSfl
import Derived.ControlIn
import Derived.RangeFuncNested
import Derived.RangeFuncBound
import Derived.RangeFuncCalls
import Derived.RangeFuncLeaves
import Derived.Shelf.Abstract
import Derived.Shelf.RegionOpen
import Derived.OwnWalkIn
import Derived.TacticsInMore
import Derived.LoopNIn
import Derived.LoopIn
namespace Go.Proofs.Ytfebgcbkadmgiaa
open Go.RowKit Go.Shelf
set_option linter.unusedVariables false
attribute [local go_sem] Oper.semAt_some

/-- Blocks that lie as they lay. -/
def KeepS (S : List Nat) (W W' : World) : Prop := ∀ x ∈ S, W'.heap[x]? = W.heap[x]?
theorem KeepS.refl (S : List Nat) (W : World) : KeepS S W W := fun _ _ => rfl
theorem KeepS.trans {S : List Nat} {A B C : World} (h : KeepS S A B) (k : KeepS S B C) : KeepS S A C := fun x hx => (k x hx).trans (h x hx)
theorem KeepS.ext {S : List Nat} {A B : World} (h : Ext A B) (hS : ∀ x ∈ S, x < A.heap.size) : KeepS S A B := fun x hx => by
  have h' : Below A.heap.size A B := h
  exact h'.block x (hS x hx)
theorem KeepS.chg {S T : List Nat} {A B : World} (h : Chg T A B) (hS : ∀ x ∈ S, x < A.heap.size ∧ x ∉ T) : KeepS S A B := fun x hx => h.block x (hS x hx).1 (hS x hx).2
theorem keepS_b {S : List Nat} {w : World} (hS : ∀ x ∈ S, x < w.heap.size) (W : World) (l : Nat) (o o' : Obj) (hl : w.heap.size ≤ l) (_ : W.heap[l]? = some o) (_ : o.isCells = false) (_ : o.isWalk = false) : KeepS S W (W.putObj l o') :=
  fun x hx => World.putObj_heap_other (fun e => by have := hS x hx; omega)
theorem Ext.grown {A B : World} (h : Ext A B) : A.grownBy B none := by
  have h' : Below A.heap.size A B := h
  exact ⟨h'.os, h'.tape, h'.output, h'.size, fun k hk _ => h'.block k hk⟩
theorem Rd.keep {S : List Nat} {w w' : World} {sz n : Nat} {v : Value} {cs : List Value} (h : Rd w sz v n cs) (k : KeepS S w w') (hs : 0 < n → ∀ g, v.ownBlock = some g → g ∈ S) (hz : w.heap.size ≤ w'.heap.size) : Rd w' sz v n cs := by
  obtain ⟨h1, a, cap, h2, h3, h4, h5, h6⟩ := h
  refine ⟨h1, a, cap, h2, h3, h4, h5, fun hn => ?_⟩
  obtain ⟨b, off, e, hb, hc⟩ := h6 hn
  refine ⟨b, off, e, by omega, fun j hj => ?_⟩
  rw [World.cell?_of_block (w := w) (w' := w') (a := ⟨b, off + j, none⟩) (k b (hs hn b (by rw [h2, e]; rfl)))]
  exact hc j hj
theorem Blk.keep {S : List Nat} {w w' : World} {b : Nat} {t : TypeId} {cs : List Value} (h : Blk w b t cs) (k : KeepS S w w') (hs : b ∈ S) : Blk w' b t cs := by
  unfold Blk at h ⊢
  rw [k b hs]; exact h

theorem Blk.newAt (w : World) (cs : List Value) (t : TypeId) (k : Nat) (h : w.heap.size = k) : Blk (w.alloc (.cells cs.toArray t)) k t cs := by subst h; exact Blk.new w cs t
/-- The block of a slice that holds some. -/
def dataS (v : Value) (n : Nat) : List Nat := if 0 < n then v.ownBlock.toList else []
theorem dataS_lt {w : World} {v : Value} {D : List Int} (h : Rd8 w v D) : ∀ x ∈ dataS v D.length, x < w.heap.size := by
  intro x hx
  unfold dataS at hx
  split at hx
  · next hn =>
    obtain ⟨_, a', cap', rfl, _, _, _, h6⟩ := h
    obtain ⟨b', off', rfl, hb, -⟩ := h6 hn
    simp [Value.ownBlock] at hx
    omega
  · cases hx
theorem keepz_t {S : List Nat} {A B C : World} (h : KeepS S A B ∧ A.heap.size ≤ B.heap.size) (k : KeepS S B C ∧ B.heap.size ≤ C.heap.size) : KeepS S A C ∧ A.heap.size ≤ C.heap.size := ⟨h.1.trans k.1, by omega⟩
theorem keepz_b {S : List Nat} {w : World} (hS : ∀ x ∈ S, x < w.heap.size) (W : World) (l : Nat) (o o' : Obj) (hl : w.heap.size ≤ l) (h1 : W.heap[l]? = some o) (h2 : o.isCells = false) (h3 : o.isWalk = false) : KeepS S W (W.putObj l o') ∧ W.heap.size ≤ (W.putObj l o').heap.size :=
  ⟨keepS_b hS W l o o' hl h1 h2 h3, by simp⟩


/-- The row of the i-th byte. -/
def rowI (pr i : Nat) : Nat := if pr ≤ i then i + 1 else i
def encA {n : Nat} (D : List Int) (pr : Nat) (x : Fin n) : Array Value := #[.int .i64 (rowI pr x.val : Int), .int .u8 (D.getD x.val 0)]
def upF (n k : Nat) : List (Fin n) := (List.finRange n).take k
theorem upF_len {n k : Nat} (h : k ≤ n) : (upF n k).length = k := by simp [upF, h]
theorem upF_succ {n k : Nat} (h : k < n) : upF n (k + 1) = upF n k ++ [⟨k, h⟩] := by
  unfold upF
  rw [List.take_add_one, List.getElem?_eq_getElem (by simpa using h)]
  simp
theorem upF_all (n : Nat) : upF n n = List.finRange n := by unfold upF; rw [List.take_of_length_le (by simp)]

theorem all_any (v : Value) (pr : Int) (w : World) (ad : Option Addr) (n cap : Nat) (hv : v = .slice ad n cap) :
    Calls Try.prog 43 #[.agg #[v, .int .i64 pr]] w fun e w' =>
      e = .returned (.func (.func 59) #[] #[.pointer (some ⟨w.heap.size, 0, none⟩)]) ∧ w' = w.alloc (.cells #[v, .int .i64 pr] 46) := by
  subst hv
  go_enter Try.func43, Try.ntmps43
  go_wp2_with fail
  go_ret
  exact ⟨rfl, rfl⟩

set_option maxRecDepth 100000 in
set_option maxHeartbeats 2000000 in
theorem all1_in (m : Nat) (hm : 2 ≤ m) (l B0 pr n cap : Nat) (ad : Option Addr) (D : List Int) (hDn : D.length = n) (hn : n ≤ 1000) (S : List Nat) (hS0 : B0 ∈ S) (hSv : 0 < n → ∀ g, (Value.slice ad n cap).ownBlock = some g → g ∈ S)
    (J Jx : List (Fin n) → World → Prop) (W : World) (hJ : AbidesFrom W.heap.size J) (hlt : ∀ z ∈ S, z < W.heap.size)
    (hY : ∀ pre z W1, J pre W1 → pre.length < n → YieldAt Fence.wide (m - 1) Try.prog l (encA D pr z) W1 fun e W' =>
      (e = .returned (.bool true) ∧ J (pre ++ [z]) W' ∧ (KeepS S W1 W' ∧ W1.heap.size ≤ W'.heap.size)) ∨ (e = .returned (.bool false) ∧ Jx (pre ++ [z]) W'))
    (b0 : Blk W B0 46 [.slice ad n cap, .int .i64 (pr : Int)]) (hR : Rd W 1 (.slice ad n cap) n (bs D)) (h0 : J [] W) :
    CallsIn Fence.wide m Try.prog 59 #[.func (.yield l) #[] #[], .pointer (some ⟨B0, 0, none⟩)] W fun e W' => (∃ v, e = .returned v) ∧
      ((∃ ys, ys = List.finRange n ∧ J ys W') ∨ (∃ pre, (∃ k, k ≤ n ∧ pre = upF n k) ∧ Jx pre W')) := by
  refine callsIn_of_wp Try.func59 rfl trivial ?_ rfl
  simp only [Try.ntmps59, List.size_toArray, List.length_cons, List.length_nil, Nat.reduceAdd, Nat.reduceSub, Array.replicate_succ, Array.replicate_zero, List.push_toArray, List.append_toArray, List.nil_append, List.cons_append]
  have c0 := b0.cell 0 _ rfl
  have hm1 : 1 ≤ m := by omega
  have hm2 : 1 ≤ m - 1 := by omega
  replace hDn := hidden hDn
  gi_wp2
  gi_loopw [9] (fun i wr => ∃ k : Nat, k ≤ n ∧ i = .int .i64 (k : Int) ∧ J (upF n k) wr ∧ KeepS S W wr ∧ W.heap.size ≤ wr.heap.size)
    (fun i _ => n - (intOf i).toNat)
  case atStart => exact ⟨0, Nat.zero_le _, by go_num, h0, KeepS.refl _ _, Nat.le_refl _⟩
  case round =>
    obtain ⟨k, hk, rfl, hJs, hK, hsz⟩ := hrel
    have d1 := (b0.keep hK hS0).cell 1 _ rfl
    by_cases hlt' : k < n
    · have k1 : (k : Int) < (n : Int) := by omega
      have v1 : IntKind.i64.wrap ((k : Int) + 1) = (k : Int) + 1 := IntWalk.i64_in _ (by omega)
      have hRk := hR.keep hK hSv hsz
      obtain ⟨bb, off, rfl, -, hcell⟩ := hRk.cells (by omega)
      have cB := hcell k (by rw [bs_len, hDn.out]; exact hlt')
      rw [bs_get _ _ (by rw [hDn.out]; exact hlt')] at cB
      clear hcell hRk
      obtain ⟨fn, tmps, assign, body, hy, hR'⟩ := hY _ ⟨k, hlt'⟩ wr hJs (by rw [upF_len hk]; exact hlt')
      unfold encA at hy
      dsimp only at hy
      obtain ⟨y, hye⟩ : ∃ y, D.getD k 0 = y := ⟨_, rfl⟩
      rw [hye] at hy cB
      replace hye := hidden hye
      obtain ⟨rw', hrw⟩ : ∃ r, rowI pr k = r := ⟨_, rfl⟩
      rw [hrw] at hy
      have key : ∀ (e : Ending) (W' : World), (e = .returned (.bool true) ∧ J (upF n k ++ [⟨k, hlt'⟩]) W' ∧ KeepS S wr W' ∧ wr.heap.size ≤ W'.heap.size ∨ e = .returned (.bool false) ∧ Jx (upF n k ++ [⟨k, hlt'⟩]) W') →
          (e = .returned (.bool true) ∧ Hid (J (upF n (k + 1)) W' ∧ KeepS S W W' ∧ W.heap.size ≤ W'.heap.size)) ∨ (e = .returned (.bool false) ∧ Hid (Jx (upF n (k + 1)) W')) := by
        intro e W' h
        rw [upF_succ hlt']
        rcases h with ⟨h1, h2, h3, h4⟩ | ⟨h1, h2⟩
        · exact Or.inl ⟨h1, h2, hK.trans h3, by omega⟩
        · exact Or.inr ⟨h1, h2⟩
      replace key := hidden key
      replace hK := hidden hK
      by_cases hpk : pr ≤ k
      · have hp2 : (pr : Int) ≤ (k : Int) := by omega
        have e1 : rw' = k + 1 := by rw [← hrw]; unfold rowI; rw [if_pos hpk]
        rw [e1, show ((k + 1 : Nat) : Int) = (k : Int) + 1 by omega] at hy
        clear hrw e1
        gi_wp2
        refine hR'.mono ?_
        intro e W3 h3
        rcases key.out e W3 h3 with ⟨rfl, h4⟩ | ⟨rfl, h4⟩
        · gi_wp2
          go_roundw
          case rel => exact ⟨k + 1, by omega, by go_num, h4.out.1, h4.out.2.1, h4.out.2.2⟩
          case measure => simp [intOf]; omega
        · gi_wp2
          refine bodyPost_ret (results_none rfl _ _ _) rfl ?_
          exact ⟨⟨_, rfl⟩, .inr ⟨_, ⟨k + 1, by omega, rfl⟩, h4.out⟩⟩
      · have hp2 : ¬ (pr : Int) ≤ (k : Int) := by omega
        have e1 : rw' = k := by rw [← hrw]; unfold rowI; rw [if_neg hpk]
        rw [e1] at hy
        clear hrw e1
        gi_wp2
        refine hR'.mono ?_
        intro e W3 h3
        rcases key.out e W3 h3 with ⟨rfl, h4⟩ | ⟨rfl, h4⟩
        · gi_wp2
          go_roundw
          case rel => exact ⟨k + 1, by omega, by go_num, h4.out.1, h4.out.2.1, h4.out.2.2⟩
          case measure => simp [intOf]; omega
        · gi_wp2
          refine bodyPost_ret (results_none rfl _ _ _) rfl ?_
          exact ⟨⟨_, rfl⟩, .inr ⟨_, ⟨k + 1, by omega, rfl⟩, h4.out⟩⟩
    · have k1 : ¬ (k : Int) < (n : Int) := by omega
      have k2 : k = n := by omega
      have hJn : J (List.finRange n) wr := by rw [← upF_all]; rw [k2] at hJs; exact hJs
      replace k2 := hidden k2
      gi_wp2
      go_end0
      exact ⟨⟨_, rfl⟩, .inl hJn⟩
theorem all_stops (m : Nat) (hm : 2 ≤ m) (B0 pr n cap : Nat) (ad : Option Addr) (D : List Int) (hDn : D.length = n) (hn : n ≤ 1000) (S : List Nat) (hS0 : B0 ∈ S) (hSv : 0 < n → ∀ g, (Value.slice ad n cap).ownBlock = some g → g ∈ S)
    (w : World) (hlt : ∀ z ∈ S, z < w.heap.size) (b0 : Blk w B0 46 [.slice ad n cap, .int .i64 (pr : Int)]) (hR : Rd w 1 (.slice ad n cap) n (bs D)) :
    SeqStopsK Fence.wide m Try.prog 59 #[.pointer (some ⟨B0, 0, none⟩)] (encA (n := n) D pr) (fun A B => KeepS S A B ∧ A.heap.size ≤ B.heap.size) (fun ys => ys = List.finRange n) (fun pre => ∃ k, k ≤ n ∧ pre = upF n k) n w :=
  fun l J Jx W hW hJ hJx hY h0 =>
    have hE : Ext w W := hW
    all1_in m hm l B0 pr n cap ad D hDn hn S hS0 hSv J Jx W hJ (fun z hz => Nat.lt_of_lt_of_le (hlt z hz) hE.size) hY (b0.ext hE) (Rd.ext hR hE) h0
end Go.Proofs.Ytfebgcbkadmgiaa
