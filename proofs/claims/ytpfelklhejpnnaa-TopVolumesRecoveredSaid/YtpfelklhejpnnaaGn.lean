/- General: ranges over functions: what the body keeps; regions of their bodies. -/
import Derived.Test.YtpfelklhejpnnaaHu
import Derived.Test.YtpfelklhejpnnaaHbd
import Derived.ControlIn
import Derived.RangeFuncNested
import Derived.RangeFuncBound
import Derived.RangeFuncCalls
import Derived.RangeFuncLeaves
import Derived.Shelf.Abstract
import Derived.Shelf.RegionOpen
import Derived.OwnWalkIn
import Derived.TacticsInMore
import Derived.LoopNIn
import Derived.LoopIn
import Derived.Deep.DeepAppendRoom
import Derived.BigQuiet
import Derived.Deep.Cut
import Derived.Deep.QuietTactic
import Derived.Outline
import Derived.Laws.Rows
import Derived.Test.YtpfelklhejpnnaaMz
namespace Go.Proofs.Ytpfelklhejpnnaa
open Go.RowKit Go.Shelf
set_option linter.unusedVariables false
set_option linter.unusedSimpArgs false

/-- Blocks that lie as they lay. -/
def KeepS (S : List Nat) (W W' : World) : Prop := ∀ x ∈ S, W'.heap[x]? = W.heap[x]?
theorem KeepS.refl (S : List Nat) (W : World) : KeepS S W W := fun _ _ => rfl
theorem KeepS.trans {S : List Nat} {A B C : World} (h : KeepS S A B) (k : KeepS S B C) : KeepS S A C := fun x hx => (k x hx).trans (h x hx)
theorem KeepS.ext {S : List Nat} {A B : World} (h : Ext A B) (hS : ∀ x ∈ S, x < A.heap.size) : KeepS S A B := fun x hx => by
  have h' : Below A.heap.size A B := h
  exact h'.block x (hS x hx)
theorem KeepS.chg {S T : List Nat} {A B : World} (h : Chg T A B) (hS : ∀ x ∈ S, x < A.heap.size ∧ x ∉ T) : KeepS S A B := fun x hx => h.block x (hS x hx).1 (hS x hx).2
theorem keepS_b {S : List Nat} {w : World} (hS : ∀ x ∈ S, x < w.heap.size) (W : World) (l : Nat) (o o' : Obj) (hl : w.heap.size ≤ l) (_ : W.heap[l]? = some o) (_ : o.isCells = false) (_ : o.isWalk = false) : KeepS S W (W.putObj l o') :=
  fun x hx => World.putObj_heap_other (fun e => by have := hS x hx; omega)
theorem Ext.grown {A B : World} (h : Ext A B) : A.grownBy B none := by
  have h' : Below A.heap.size A B := h
  exact ⟨h'.os, h'.tape, h'.output, h'.size, fun k hk _ => h'.block k hk⟩
theorem Rd.keep {S : List Nat} {w w' : World} {sz n : Nat} {v : Value} {cs : List Value} (h : Rd w sz v n cs) (k : KeepS S w w') (hs : 0 < n → ∀ g, v.ownBlock = some g → g ∈ S) (hz : w.heap.size ≤ w'.heap.size) : Rd w' sz v n cs := by
  obtain ⟨h1, a, cap, h2, h3, h4, h5, h6⟩ := h
  refine ⟨h1, a, cap, h2, h3, h4, h5, fun hn => ?_⟩
  obtain ⟨b, off, e, hb, hc⟩ := h6 hn
  refine ⟨b, off, e, by omega, fun j hj => ?_⟩
  rw [World.cell?_of_block (w := w) (w' := w') (a := ⟨b, off + j, none⟩) (k b (hs hn b (by rw [h2, e]; rfl)))]
  exact hc j hj
theorem Blk.keep {S : List Nat} {w w' : World} {b : Nat} {t : TypeId} {cs : List Value} (h : Blk w b t cs) (k : KeepS S w w') (hs : b ∈ S) : Blk w' b t cs := by
  unfold Blk at h ⊢
  rw [k b hs]; exact h
theorem Blk.newAt (w : World) (cs : List Value) (t : TypeId) (k : Nat) (h : w.heap.size = k) : Blk (w.alloc (.cells cs.toArray t)) k t cs := by subst h; exact Blk.new w cs t
/-- The block of a slice that holds some. -/
def dataS (v : Value) (n : Nat) : List Nat := if 0 < n then v.ownBlock.toList else []
theorem dataS_lt {w : World} {v : Value} {D : List Int} (h : Rd8 w v D) : ∀ x ∈ dataS v D.length, x < w.heap.size := by
  intro x hx
  unfold dataS at hx
  split at hx
  · next hn =>
    obtain ⟨_, a', cap', rfl, _, _, _, h6⟩ := h
    obtain ⟨b', off', rfl, hb, -⟩ := h6 hn
    simp [Value.ownBlock] at hx
    omega
  · cases hx
theorem keepz_t {S : List Nat} {A B C : World} (h : KeepS S A B ∧ A.heap.size ≤ B.heap.size) (k : KeepS S B C ∧ B.heap.size ≤ C.heap.size) : KeepS S A C ∧ A.heap.size ≤ C.heap.size := ⟨h.1.trans k.1, by omega⟩
theorem keepz_b {S : List Nat} {w : World} (hS : ∀ x ∈ S, x < w.heap.size) (W : World) (l : Nat) (o o' : Obj) (hl : w.heap.size ≤ l) (h1 : W.heap[l]? = some o) (h2 : o.isCells = false) (h3 : o.isWalk = false) : KeepS S W (W.putObj l o') ∧ W.heap.size ≤ (W.putObj l o').heap.size :=
  ⟨keepS_b hS W l o o' hl h1 h2 h3, by simp⟩
def upF (n k : Nat) : List (Fin n) := (List.finRange n).take k
theorem upF_len {n k : Nat} (h : k ≤ n) : (upF n k).length = k := by simp [upF, h]
theorem upF_succ {n k : Nat} (h : k < n) : upF n (k + 1) = upF n k ++ [⟨k, h⟩] := by
  unfold upF
  rw [List.take_add_one, List.getElem?_eq_getElem (by simpa using h)]
  simp
theorem upF_all (n : Nat) : upF n n = List.finRange n := by unfold upF; rw [List.take_of_length_le (by simp)]
theorem blk_own {β : Type} (b : Nat) (t : TypeId) (f : β → List Value) : Own (fun s W => Blk W b t (f s)) := fun s X Y row hs hg hrow =>
  hs.grown hg (fun e' => by obtain ⟨o, ho, hc⟩ := hrow b e'; rw [show X.heap[b]? = _ from hs] at ho; cases ho; cases hc)
/-- Cells that lie as they lay, but for some blocks. -/
def KeepT (T : List Nat) (A B : World) : Prop := (∀ x, x ∉ T → ∀ o, A.heap[x]? = some o → o.isCells = true → B.heap[x]? = some o) ∧ A.heap.size ≤ B.heap.size
theorem KeepT.refl (T : List Nat) (A : World) : KeepT T A A := ⟨fun _ _ _ h _ => h, Nat.le_refl _⟩
theorem keepT_t {T : List Nat} {A B C : World} (h : KeepT T A B) (k : KeepT T B C) : KeepT T A C := ⟨fun x hx o ho hc => k.1 x hx o (h.1 x hx o ho hc) hc, by have := h.2; have := k.2; omega⟩
theorem keepT_b {T : List Nat} (W : World) (l : Nat) (o o' : Obj) (h1 : W.heap[l]? = some o) (h2 : o.isCells = false) : KeepT T W (W.putObj l o') :=
  ⟨fun x hx o2 ho hc => by
    rw [World.putObj_heap_other (fun e => by subst e; rw [h1] at ho; cases ho; rw [h2] at hc; cases hc)]
    exact ho, by simp⟩
theorem KeepT.of_ext {T : List Nat} {A B : World} (h : Ext A B) : KeepT T A B := by
  have h' : Below A.heap.size A B := h
  exact ⟨fun x hx o ho hc => by rw [h'.block x (Array.getElem?_eq_some_iff.1 ho).1]; exact ho, h'.size⟩
theorem KeepT.of_chg {T S : List Nat} {A B : World} (h : Chg S A B) (hS : ∀ x ∈ S, x ∈ T) : KeepT T A B :=
  ⟨fun x hx o ho hc => by rw [h.block x (Array.getElem?_eq_some_iff.1 ho).1 (fun hm => hx (hS x hm))]; exact ho, h.size⟩
theorem Blk.keepT {T : List Nat} {w w' : World} {b : Nat} {t : TypeId} {cs : List Value} (h : Blk w b t cs) (k : KeepT T w w') (hb : b ∉ T) : Blk w' b t cs := k.1 b hb _ h rfl
theorem chg_keeps {S : List Nat} {W W' : World} (h : Chg S W W') (hS : ∀ x ∈ S, ∀ o, W.heap[x]? = some o → o.isCells = true) : KeepsOthers W W' :=
  ⟨h.size, fun k o hk ho => by
    rw [h.block k (Array.getElem?_eq_some_iff.1 hk).1 (fun hm => by rw [hS k hm o hk] at ho; cases ho)]
    exact hk⟩
theorem chg_below {S : List Nat} {w W W' : World} (hB : Below w.heap.size w W) (h : Chg S W W') (hS : ∀ x ∈ S, w.heap.size ≤ x) : Below w.heap.size w W' := by
  have h1 : Ext w W := hB
  exact Chg.ext (((Chg.of_ext [] h1)).trans h (fun x hx => Or.inr (hS x hx)))
theorem own8_own {β : Type} (B d cap : Nat) (k : β → Nat) (f : β → List Int) (hk : ∀ s, (f s).length = k s) : Own (fun s W => Own8 W B (.slice (some ⟨d, 0, none⟩) (k s) cap) (f s)) := fun s X Y row hs hg hrow => by
  have hs' : Own8 X B (.slice (some ⟨d, 0, none⟩) (k s) cap) (f s) := hs
  refine ⟨hs'.1, ?_⟩
  rcases hs'.2 with ⟨h1, _⟩ | ⟨g, c, cur, hv, hb, hgg, h2, h3, h4, h5⟩
  · cases h1
  · refine Or.inr ⟨g, c, cur, hv, hb, ?_, h2, h3, h4, h5⟩
    rw [grownBy_keeps_cells hg hrow hgg rfl]
    exact hgg
/-- The beginning of a region that draws its order, in a round of a range over a function. -/
theorem wpIn_round_D {P : Program} {id l n : Nat} {ops : Array Oper} {Q : Exit → Act → World → Prop} {a : Act} {w : World} {S : World → Prop} {D : List Nat} (hm : P.follows .mixedOrders = true) (hLO : ¬ LetsOut Q)
    (hd : ops.all noDeferB = true) (hS : S w.drew)
    (h : S w.drew → wpAnyD P .any ops Q S D ops.size (Array.replicate ops.size false) a w.drew) : (Code.region id ops true).wpIn (Fence.wide.inRound l) n P Q a w :=
  wpIn_region_any hm (wpAnyIn_round hLO (noDefer_of hd) _ _ _ _ (wpAny_of_D _ _ _ _ (h hS)))
/-- An append that finds room, to an own row. -/
theorem appendRoomD {P : Program} {md : Region.Mode} {ops : Array Oper} {Q : Exit → Act → World → Prop} {S : World → Prop} {D : List Nat} {fuel : Nat} {listed : Array Bool} (i : Nat) {oi : Oper} {dd : Tmp} {a : Act} {w : World} (hii : ops[i]? = some oi) (hd : oi.dst = some dd) (gi : oi.guard = none)
    (hrd : Region.ready md ops listed = [i]) (s x : Operand) (t : TypeId)
    (ho : oi.op = .call { callee := .builtin .append, args := #[s, x], argTypes := #[t, t] })
    (base : Nat) (e : TypeId) (i1 : TypeInfo) (size : Nat) (ht : P.underlying t = some (.slice e)) (hi : P.info? e = some i1) (hsize : i1.size = size)
    (g n cap : Nat) (xs : List Value) (hs : a.eval s = .slice (some ⟨g, 0, none⟩) n cap) (hown : w.ownsRow base e size (.slice (some ⟨g, 0, none⟩) n cap) n xs)
    (y : Option Addr) (m c : Nat) (news : List Value) (hx : a.eval x = .slice y m c) (hr : Rd w size (.slice y m c) m news) (h1 : ∀ u ∈ news, u.oneCell' = true)
    (hroom : n + m ≤ cap) (hm : 0 < m)
    (h : ∀ w', w'.ownsRow base e size (.slice (some ⟨g, 0, none⟩) (n + m) cap) (n + m) (xs ++ news) → w.grownBy w' (some g) →
      (i ∉ D → S w') ∧ wpAnyD P md ops Q S D fuel (listed.setIfInBounds i true) { a with tmps := a.tmps.setIfInBounds dd (.slice (some ⟨g, 0, none⟩) (n + m) cap) } w') :
    wpAnyD P md ops Q S D (fuel + 1) listed a w := by
  obtain ⟨ad, rfl⟩ : ∃ ad, y = some ad := by
    obtain ⟨b, off, e, -⟩ := hr.cells hm
    exact ⟨_, e⟩
  obtain ⟨w', hrr, h2, h3⟩ := run_append_own_spare (P := P) w base t oi.type e i1 size ht hi hsize g n cap xs hown ad m c news hr.1 (Rd.news hr) h1 hroom
  obtain ⟨hS, hh⟩ := h w' h2 h3
  refine valueD i _ hii hd hrd (by unfold Region.wanted; rw [gi]) (w' := w') ?_ hS hh
  unfold execOp
  simp only [ho, resolve, invoke, builtin, Sem.run_bind, Sem.run_pure, Result.andThen_ok, List.map_toArray, List.map_cons, List.map_nil, hs, hx, hrr]
theorem rd_of_blkS {w : World} {b n sz : Nat} {T : TypeId} {cs : List Value} (h : Blk w b T cs) (hl : cs.length = n * sz) (hn : n ≤ 1000) : Rd w sz (.slice (some ⟨b, 0, none⟩) n n) n cs := by
  refine ⟨hl, _, _, rfl, Nat.le_refl _, by unfold maxLen; omega, (fun e => by cases e), fun _ => ⟨b, 0, rfl, h.lt, fun j hj => ?_⟩⟩
  rw [Nat.zero_add]
  exact h.cell j _ (by simp [List.getD, List.getElem?_eq_getElem hj])
theorem up_snoc {n k : Nat} {ini : List (Fin n)} {x : Fin n} (hk : k ≤ n) (h : ini ++ [x] = upF n k) : ini = upF n x.val ∧ k = x.val + 1 := by
  have hl : ini.length + 1 = k := by
    have := congrArg List.length h
    rw [upF_len hk, List.length_append] at this
    exact this
  obtain ⟨j, rfl⟩ : ∃ j, k = j + 1 := ⟨k - 1, by omega⟩
  rw [upF_succ (by omega)] at h
  obtain ⟨h1, h2⟩ := List.append_inj h (by rw [upF_len (by omega)]; omega)
  have h3 : x = ⟨j, by omega⟩ := by simpa using h2
  subst h3
  exact ⟨h1, rfl⟩
theorem mem_up {n k : Nat} (hk : k ≤ n) (i : Nat) (hi : i < k) : (⟨i, by omega⟩ : Fin n) ∈ upF n k := by
  unfold upF
  rw [List.mem_take_iff_getElem]
  exact ⟨i, by simp; omega, by simp⟩
theorem callVD {P : Program} {md : Region.Mode} {ops : Array Oper} {Q : Exit → Act → World → Prop} {S : World → Prop} {D : List Nat} (i : Nat) {oi : Oper} {d : Tmp} {fuel : Nat} {listed : Array Bool} {a : Act} {w : World} (f : FuncId) (args : Array Value) {R : Ending → World → Prop} (hi : ops[i]? = some oi) (hd : oi.dst = some d)
    (hr : Region.ready md ops listed = [i]) (hw : Region.wanted oi (yielded ops a.tmps) = true) (hrun : (execOp a.eval oi).run P w = .ok (.enter f args) w) (hc : Calls P f args w R)
    (h : ∀ e w', R e w' → (∃ v, e = .returned v ∧ (i ∉ D → S w') ∧ wpAnyD P md ops Q S D fuel (listed.setIfInBounds i true) { a with tmps := a.tmps.setIfInBounds d v } w') ∨ (∃ c, e = .panicked c ∧ Q (.panic c) a w')) : wpAnyD P md ops Q S D (fuel + 1) listed a w :=
  callD i f args hi hr hw hrun hc (by rw [hd]; exact h)
theorem blk_newAt' (w : World) (cs : List Value) (t : TypeId) (b : Nat) (hb : w.heap.size = b) : Blk (w.alloc (.cells cs.toArray t)) b t cs := hb ▸ Blk.new w cs t
section
variable {P : Program} {md : Region.Mode} {ops : Array Oper} {Q : Exit → Act → World → Prop} {S : World → Prop}
theorem valueU {D : List Nat} (i : Nat) (v : Value) {oi : Oper} {d : Tmp} {fuel : Nat} {listed : Array Bool} {a : Act} {w w' : World} (hi : ops[i]? = some oi) (hd : oi.dst = some d)
    (hw : Region.wanted oi (yielded ops a.tmps) = true) (hrun : (execOp a.eval oi).run P w = .ok (.value v) w') (hS : i ∉ D → S w')
    (h : wpAnyD P md ops Q S D fuel (listed.setIfInBounds i true) { a with tmps := a.tmps.setIfInBounds d v } w') : wpOp P ops Q i (fun a' w' => (i ∉ D → S w') ∧ wpAnyD P md ops Q S D fuel (listed.setIfInBounds i true) a' w') a w := by
  unfold wpOp
  simp only [hi, hw, if_true]
  left
  unfold Oper.wp
  rw [hrun]
  show (i ∉ D → S w') ∧ wpAnyD P md ops Q S D fuel _ (a.put oi.dst v) w'
  rw [hd]
  exact ⟨hS, h⟩
theorem callU {D : List Nat} (i : Nat) {oi : Oper} {d : Tmp} {fuel : Nat} {listed : Array Bool} {a : Act} {w : World} (f : FuncId) (args : Array Value) {R : Ending → World → Prop} (hi : ops[i]? = some oi) (hd : oi.dst = some d)
    (hw : Region.wanted oi (yielded ops a.tmps) = true) (hrun : (execOp a.eval oi).run P w = .ok (.enter f args) w) (hc : Calls P f args w R)
    (h : ∀ e w', R e w' → (∃ v, e = .returned v ∧ (i ∉ D → S w') ∧ wpAnyD P md ops Q S D fuel (listed.setIfInBounds i true) { a with tmps := a.tmps.setIfInBounds d v } w') ∨ (∃ c, e = .panicked c ∧ Q (.panic c) a w')) : wpOp P ops Q i (fun a' w' => (i ∉ D → S w') ∧ wpAnyD P md ops Q S D fuel (listed.setIfInBounds i true) a' w') a w := by
  unfold wpOp
  simp only [hi, hw, if_true]
  left
  unfold Oper.wp
  rw [hrun]
  refine Calls.mono hc ?_
  intro e w' hR
  rcases h e w' hR with ⟨v, rfl, hS, hh⟩ | ⟨c, rfl, hq⟩
  · refine ⟨hS, ?_⟩
    show wpAnyD P md ops Q S D fuel _ (a.put oi.dst v) w'
    rw [hd]
    exact hh
  · exact hq
end
end Go.Proofs.Ytpfelklhejpnnaa

/- slices.Grow of nothing, slices.Concat: of bytes, and of byte strings. -/
namespace Go.Proofs.Ytpfelklhejpnnaa
open Go.RowKit
set_option linter.unusedVariables false
set_option linter.unusedSimpArgs false
attribute [local go_sem ↓] Go.wp_at_zero Go.wp_at_succ

theorem s8info : (Try.prog.info? 22).map (fun i => (i.zero, i.size, i.bytes)) = some (some (.slice none 0 0), 1, 24) := by kernel_rfl
/-- The cells of several rows, one behind the other, up to a row. -/
def catL (CS : List (List Value)) (k : Nat) : List Value := (CS.take k).flatten
theorem catL_succ (CS : List (List Value)) (k : Nat) (C : List Value) (h : CS[k]? = some C) : catL CS (k + 1) = catL CS k ++ C := by
  unfold catL
  rw [List.take_add_one, h, List.flatten_append]
  simp
theorem catL_all (CS : List (List Value)) (k : Nat) (h : CS.length ≤ k) : catL CS k = CS.flatten := by unfold catL; rw [List.take_of_length_le h]
theorem catL_len (CS : List (List Value)) (k : Nat) : (catL CS k).length ≤ CS.flatten.length := by
  unfold catL
  have h : CS.flatten = (CS.take k).flatten ++ (CS.drop k).flatten := by rw [← List.flatten_append, List.take_append_drop]
  rw [h, List.length_append]
  omega
theorem own_first {w : World} {base g n cap : Nat} {e : TypeId} {xs : List Value} (h : w.ownsRow base e 1 (.slice (some ⟨g, 0, none⟩) n cap) n xs) : w.ownsRow base e 1 (.slice (some ⟨g, 0, none⟩) 0 cap) 0 [] := by
  refine ⟨rfl, ?_⟩
  rcases h.2 with ⟨h1, _⟩ | ⟨g', cap', cur, hv, hb, hg, h1, h2, h3, h4⟩
  · simp at h1
  · simp only [Value.slice.injEq, Option.some.injEq, Addr.mk.injEq, and_true, true_and] at hv
    obtain ⟨rfl, rfl⟩ := hv
    exact Or.inr ⟨g, cap, cur, rfl, hb, hg, Nat.zero_le _, h2, h3, by simp⟩
theorem own_some {w : World} {base n : Nat} {e : TypeId} {v : Value} {xs : List Value} (h : w.ownsRow base e 1 v n xs) (hn : 0 < n) : ∃ g cap, v = .slice (some ⟨g, 0, none⟩) n cap ∧ n ≤ cap := by
  rcases h.2 with ⟨h1, h2⟩ | ⟨g, cap, cur, rfl, hb, hg, h1, _⟩
  · omega
  · exact ⟨g, cap, rfl, h1⟩
/-- Some rows that are read. -/
def RdC (w : World) (vs : List Value) (CS : List (List Value)) : Prop := vs.length = CS.length ∧ ∀ (i : Nat) (v : Value) (C : List Value), vs[i]? = some v → CS[i]? = some C → Rd w 1 v C.length C
theorem RdC.ext {w w' : World} {vs : List Value} {CS : List (List Value)} (h : RdC w vs CS) (k : Ext w w') : RdC w' vs CS := ⟨h.1, fun i v C hv hC => (h.2 i v C hv hC).ext k⟩

set_option maxRecDepth 100000 in
theorem grow8_any (m : Nat) (hm : m ≤ 1000000) (w : World) :
    Calls Try.prog 54 #[.slice none 0 0, .int .i64 (m : Int)] w fun e w' => ∃ v, e = .returned v ∧ w'.ownsRow w.heap.size 5 1 v 0 [] ∧ Ext w w' := by
  have hnil := hidden (World.ownsRow_nil w w.heap.size 5 1)
  obtain ⟨i0, hi, hz0, hz1, hz2⟩ := info_parts u8info
  have v0 : ¬ (m : Int) < 0 := by omega
  have v1 : IntKind.i64.wrap (m : Int) = (m : Int) := IntWalk.i64_in _ (by omega)
  replace hi := hidden hi
  by_cases h0 : 0 < m
  · have v2 : (0 : Int) < (m : Int) := by omega
    have v2' : 0 < m := h0
    go_enter Try.func54, Try.ntmps54
    go_upto_region 5 with fail
    go_wp2_with (at_builtin; refine wpList_append_zeros _ (by rfl) _ _ 22 3 (by rfl) w.heap.size 5 i0 (.int .u8 0) 1 Try.underlying22 Try.underlying3 hi.out hz0 hz1 hz2 rfl rfl (.slice none 0 0) 0 [] (by rfl) hnil.out m (by rfl) (by omega) (by omega) (by unfold maxLen; omega) (by omega) (Nat.le_refl _) ?_; intro v2 w2 hown hgrow hat; rw [Nat.zero_add, List.nil_append] at hown; obtain ⟨gg, cv, rfl, hcv⟩ := own_some hown h0; have hcv0 : ¬ cv = 0 := by omega)
    go_ret
    refine ⟨_, rfl, own_first hown, Chg.ext ((Chg.refl [] w).grown hgrow (fun y hy => by simp [Value.ownBlock] at hy))⟩
  · obtain rfl : m = 0 := by omega
    go_enter Try.func54, Try.ntmps54
    go_wp2_with fail
    go_ret
    exact ⟨_, rfl, World.ownsRow_nil _ _ _ _, Ext.refl _⟩

set_option maxRecDepth 100000 in
theorem growS_any (m : Nat) (hm : m ≤ 1000000) (w : World) :
    Calls Try.prog 30 #[.slice none 0 0, .int .i64 (m : Int)] w fun e w' => ∃ v, e = .returned v ∧ w'.ownsRow w.heap.size 22 1 v 0 [] ∧ Ext w w' := by
  have hnil := hidden (World.ownsRow_nil w w.heap.size 22 1)
  obtain ⟨i0, hi, hz0, hz1, hz2⟩ := info_parts s8info
  have v0 : ¬ (m : Int) < 0 := by omega
  have v1 : IntKind.i64.wrap (m : Int) = (m : Int) := IntWalk.i64_in _ (by omega)
  replace hi := hidden hi
  by_cases h0 : 0 < m
  · have v2 : (0 : Int) < (m : Int) := by omega
    have v2' : 0 < m := h0
    go_enter Try.func30, Try.ntmps30
    go_upto_region 5 with fail
    go_wp2_with (at_builtin; refine wpList_append_zeros _ (by rfl) _ _ 26 3 (by rfl) w.heap.size 22 i0 (.slice none 0 0) 24 Try.underlying26 Try.underlying3 hi.out hz0 hz1 hz2 rfl rfl (.slice none 0 0) 0 [] (by rfl) hnil.out m (by rfl) (by omega) (by omega) (by unfold maxLen; omega) (by omega) (Nat.le_refl _) ?_; intro v2 w2 hown hgrow hat; rw [Nat.zero_add, List.nil_append] at hown; obtain ⟨gg, cv, rfl, hcv⟩ := own_some hown h0; have hcv0 : ¬ cv = 0 := by omega)
    go_ret
    refine ⟨_, rfl, own_first hown, Chg.ext ((Chg.refl [] w).grown hgrow (fun y hy => by simp [Value.ownBlock] at hy))⟩
  · obtain rfl : m = 0 := by omega
    go_enter Try.func30, Try.ntmps30
    go_wp2_with fail
    go_ret
    exact ⟨_, rfl, World.ownsRow_nil _ _ _ _, Ext.refl _⟩

set_option maxRecDepth 100000 in
set_option maxHeartbeats 1000000 in
theorem concat8_any (v : Value) (vs : List Value) (CS : List (List Value)) (hl : CS.flatten.length ≤ 900000) (hnl : vs.length ≤ 100000) (w : World) (hv : Rd w 1 v vs.length vs) (hC : RdC w vs CS) (h1 : ∀ C ∈ CS, ∀ u ∈ C, u.oneCell' = true) :
    Calls Try.prog 38 #[v] w fun e w' => ∃ v', e = .returned v' ∧ w'.ownsRow w.heap.size 5 1 v' CS.flatten.length CS.flatten ∧ Ext w w' := by
  obtain ⟨ad, cap, rfl, q1, q2, q3⟩ := Rd.shape hv
  have hcl := hC.1
  obtain ⟨n, hn⟩ : ∃ n, vs.length = n := ⟨_, rfl⟩
  have hR : Hid (Rd w 1 (.slice ad n cap) n vs) := hidden (by rw [← hn]; exact hv)
  rw [hn] at q1 hnl hcl ⊢
  have hgr := fun m (hm : m ≤ 1000000) W => grow8_any m hm W
  have hcel : ∀ k, k < n → ∃ (a : Option Addr) (c : Nat) (C : List Value) (b off : Nat), ad = some ⟨b, off, none⟩ ∧ CS[k]? = some C ∧ (∀ u ∈ C, u.oneCell' = true) ∧ (∀ W, Ext w W → W.cell? ⟨b, off + k, none⟩ = some (.slice a C.length c)) ∧ (∀ W, Ext w W → Rd W 1 (.slice a C.length c) C.length C) := fun k hk => by
    obtain ⟨b, off, rfl, hb, hcell⟩ := hR.out.cells (by omega)
    have e1 : vs[k]? = some vs[k] := List.getElem?_eq_getElem (by omega)
    have e2 : CS[k]? = some CS[k] := List.getElem?_eq_getElem (by omega)
    have hr := hC.2 k _ _ e1 e2
    obtain ⟨a, c, hs, -, -, -⟩ := Rd.shape hr
    have hce := hcell k (by omega)
    rw [List.getD_eq_getElem?_getD, e1] at hce
    rw [hs] at hr
    refine ⟨a, c, CS[k], b, off, rfl, e2, h1 _ (List.getElem_mem _), fun W hW => ?_, fun W hW => hr.ext hW⟩
    have := hW.cell hce
    rw [show (some vs[k]).getD undef = vs[k] from rfl, hs] at this
    exact this
  replace hgr := hidden hgr
  replace hcel := hidden hcel
  replace hcl := hidden hcl
  clear hC h1 hn hv
  obtain ⟨i0, hi, hz0, hz1, hz2⟩ := info_parts u8info
  replace hi := hidden hi
  go_enter Try.func38, Try.ntmps38
  go_wp2_with fail
  go_loopw [3, 11] (fun u i wr => ∃ (k : Nat), i = .int .i64 (k : Int) ∧ k ≤ n ∧ u = .int .i64 ((catL CS k).length : Int) ∧ wr = w) (fun _ i _ => n - (intOf i).toNat)
  case atStart => exact ⟨0, rfl, by omega, rfl, rfl⟩
  case round =>
    obtain ⟨k, rfl, hk, rfl, hwr⟩ := hrel
    have v1 : IntKind.i64.wrap ((k : Int) + 1) = (k : Int) + 1 := IntWalk.i64_in _ (by omega)
    rw [hwr]
    clear hwr wr
    have hlk := catL_len CS k
    by_cases hlt : k < n
    · have hlt2 : (k : Int) < (n : Int) := by omega
      obtain ⟨a, c, C, b, off, rfl, hCk, h1C, hce, hrd⟩ := hcel.out k hlt
      have cB := hce w (Ext.refl w)
      have hst := catL_succ CS k C hCk
      have hlk2 := catL_len CS (k + 1)
      rw [hst, List.length_append] at hlk2
      have hst2 : (catL CS (k + 1)).length = (catL CS k).length + C.length := by rw [hst, List.length_append]
      obtain ⟨m1, hm1⟩ : ∃ m, (catL CS k).length = m := ⟨_, rfl⟩
      obtain ⟨m2, hm2⟩ : ∃ m, C.length = m := ⟨_, rfl⟩
      rw [hm1] at hst2 hlk2 hlk ⊢
      rw [hm2] at hst2 hlk2 cB
      have v2 : IntKind.i64.wrap ((m1 : Int) + (m2 : Int)) = (m1 : Int) + (m2 : Int) := IntWalk.i64_in _ (by omega)
      have v3 : ¬ (m1 : Int) + (m2 : Int) < 0 := by omega
      have v4 : decide ((m1 : Int) + (m2 : Int) < 0) = false := decide_eq_false (by omega)
      replace hst2 := hidden hst2
      clear hCk h1C hce hrd hst hm1 hm2
      go_wp2_with fail
      go_roundw
      case rel => exact ⟨k + 1, by go_num, by omega, by rw [hst2.out]; rfl, by trivial⟩
      case measure => simp [intOf]; omega
    · have hke : k = n := by omega
      rw [hke, catL_all CS n (by have := hcl.out; omega)]
      clear hlt hlk v1
      have hk9 : decide ((n : Int) < (n : Int)) = false := by simp
      obtain ⟨M, hM⟩ : ∃ M, CS.flatten.length = M := ⟨_, rfl⟩
      rw [hM] at hl ⊢
      have hg1 := hgr.out M (by omega) w
      replace hg1 := hidden hg1
      replace hM := hidden hM
      clear hgr
      go_wp2_with fail
      refine hg1.out.mono ?_
      rintro e w3 ⟨v3, rfl, hO3, hX3⟩
      have hO3' : Hid (w3.ownsRow w.heap.size 5 1 v3 (catL CS 0).length (catL CS 0)) := hidden hO3
      replace hX3 := hidden hX3
      clear hO3 hg1
      go_wp2_with fail
      go_loopw [6, 27] (fun u i wr => ∃ (k : Nat), i = .int .i64 (k : Int) ∧ k ≤ n ∧ Hid (wr.ownsRow w.heap.size 5 1 u (catL CS k).length (catL CS k)) ∧ Hid (Ext w wr)) (fun _ i _ => n - (intOf i).toNat)
      case atStart => exact ⟨0, rfl, by omega, hO3', hX3⟩
      case round =>
        clear hO3' hX3
        obtain ⟨k, rfl, hk, hO, hX⟩ := hrel
        have v1 : IntKind.i64.wrap ((k : Int) + 1) = (k : Int) + 1 := IntWalk.i64_in _ (by omega)
        obtain ⟨w4, hWW⟩ : ∃ X, X = wr := ⟨_, rfl⟩
        subst hWW
        have hlk := catL_len CS k
        rw [hM.out] at hlk
        by_cases hlt : k < n
        · have hlt2 : (k : Int) < (n : Int) := by omega
          obtain ⟨a, c, C, b, off, rfl, hCk, h1C, hce, hrd⟩ := hcel.out k hlt
          have cB := hce w4 hX.out
          have hrd4 := hrd w4 hX.out
          have hst := catL_succ CS k C hCk
          have hlk2 := catL_len CS (k + 1)
          rw [hst, List.length_append, hM.out] at hlk2
          obtain ⟨D, hD⟩ : ∃ D, catL CS k = D := ⟨_, rfl⟩
          rw [hD] at hO hst hlk hlk2
          obtain ⟨av, cv, rfl, s1, s2, -⟩ := own_shape hO.out
          obtain ⟨m1, hm1⟩ : ∃ m, D.length = m := ⟨_, rfl⟩
          obtain ⟨m2, hm2⟩ : ∃ m, C.length = m := ⟨_, rfl⟩
          have hO' : Hid (w4.ownsRow w.heap.size 5 1 (.slice av m1 cv) m1 D) := hidden (by rw [← hm1]; exact hO.out)
          rw [hm1] at s1 hlk hlk2 ⊢
          rw [hm2] at hlk2 cB hrd4
          have hws := hX.out.size
          replace hst := hidden hst
          replace hrd4 := hidden hrd4
          replace hm1 := hidden hm1
          replace hm2 := hidden hm2
          clear hCk hce hrd hD hO
          go_wp2_with (at_builtin; refine wpList_append_rd (by rfl) _ _ 22 (by rfl) w.heap.size 5 i0 (.int .u8 0) 1 1 Try.underlying22 hi.out hz0 hz1 hz2 rfl (by decide) (.slice av m1 cv) m1 D (by rfl) hO'.out a m2 c C (by rfl) hrd4.out h1C (by unfold maxLen; omega) (by omega) hws ?_; intro v6 w6 hown hgrow hb3)
          have hX6 : Ext w w6 := Chg.ext ((Chg.of_ext [] hX.out).grown hgrow (fun y hy => Or.inr (own_lt hO'.out hy).1))
          exact ⟨⟨k + 1, by go_num, by omega, hidden (by rw [hst.out, List.length_append, hm1.out, hm2.out]; exact hown), hidden hX6⟩, by simp [intOf]; omega⟩
        · have hke : k = n := by omega
          have hO2 := hO.out
          rw [hke, catL_all CS n (by have := hcl.out; omega)] at hO2
          have hk8 : decide ((k : Int) < (n : Int)) = false := decide_eq_false (by omega)
          replace hO2 := hidden hO2
          clear hO
          go_wp2_with fail
          go_ret
          exact ⟨_, rfl, by rw [← hM.out]; exact hO2.out, hX.out⟩

set_option maxRecDepth 100000 in
set_option maxHeartbeats 1000000 in
theorem concatS_any (v : Value) (vs : List Value) (CS : List (List Value)) (hl : CS.flatten.length ≤ 900000) (hnl : vs.length ≤ 100000) (w : World) (hv : Rd w 1 v vs.length vs) (hC : RdC w vs CS) (h1 : ∀ C ∈ CS, ∀ u ∈ C, u.oneCell' = true) :
    Calls Try.prog 16 #[v] w fun e w' => ∃ v', e = .returned v' ∧ w'.ownsRow w.heap.size 22 1 v' CS.flatten.length CS.flatten ∧ Ext w w' := by
  obtain ⟨ad, cap, rfl, q1, q2, q3⟩ := Rd.shape hv
  have hcl := hC.1
  obtain ⟨n, hn⟩ : ∃ n, vs.length = n := ⟨_, rfl⟩
  have hR : Hid (Rd w 1 (.slice ad n cap) n vs) := hidden (by rw [← hn]; exact hv)
  rw [hn] at q1 hnl hcl ⊢
  have hgr := fun m (hm : m ≤ 1000000) W => growS_any m hm W
  have hcel : ∀ k, k < n → ∃ (a : Option Addr) (c : Nat) (C : List Value) (b off : Nat), ad = some ⟨b, off, none⟩ ∧ CS[k]? = some C ∧ (∀ u ∈ C, u.oneCell' = true) ∧ (∀ W, Ext w W → W.cell? ⟨b, off + k, none⟩ = some (.slice a C.length c)) ∧ (∀ W, Ext w W → Rd W 1 (.slice a C.length c) C.length C) := fun k hk => by
    obtain ⟨b, off, rfl, hb, hcell⟩ := hR.out.cells (by omega)
    have e1 : vs[k]? = some vs[k] := List.getElem?_eq_getElem (by omega)
    have e2 : CS[k]? = some CS[k] := List.getElem?_eq_getElem (by omega)
    have hr := hC.2 k _ _ e1 e2
    obtain ⟨a, c, hs, -, -, -⟩ := Rd.shape hr
    have hce := hcell k (by omega)
    rw [List.getD_eq_getElem?_getD, e1] at hce
    rw [hs] at hr
    refine ⟨a, c, CS[k], b, off, rfl, e2, h1 _ (List.getElem_mem _), fun W hW => ?_, fun W hW => hr.ext hW⟩
    have := hW.cell hce
    rw [show (some vs[k]).getD undef = vs[k] from rfl, hs] at this
    exact this
  replace hgr := hidden hgr
  replace hcel := hidden hcel
  replace hcl := hidden hcl
  clear hC h1 hn hv
  obtain ⟨i0, hi, hz0, hz1, hz2⟩ := info_parts s8info
  replace hi := hidden hi
  go_enter Try.func16, Try.ntmps16
  go_wp2_with fail
  go_loopw [3, 11] (fun u i wr => ∃ (k : Nat), i = .int .i64 (k : Int) ∧ k ≤ n ∧ u = .int .i64 ((catL CS k).length : Int) ∧ wr = w) (fun _ i _ => n - (intOf i).toNat)
  case atStart => exact ⟨0, rfl, by omega, rfl, rfl⟩
  case round =>
    obtain ⟨k, rfl, hk, rfl, hwr⟩ := hrel
    have v1 : IntKind.i64.wrap ((k : Int) + 1) = (k : Int) + 1 := IntWalk.i64_in _ (by omega)
    rw [hwr]
    clear hwr wr
    have hlk := catL_len CS k
    by_cases hlt : k < n
    · have hlt2 : (k : Int) < (n : Int) := by omega
      obtain ⟨a, c, C, b, off, rfl, hCk, h1C, hce, hrd⟩ := hcel.out k hlt
      have cB := hce w (Ext.refl w)
      have hst := catL_succ CS k C hCk
      have hlk2 := catL_len CS (k + 1)
      rw [hst, List.length_append] at hlk2
      have hst2 : (catL CS (k + 1)).length = (catL CS k).length + C.length := by rw [hst, List.length_append]
      obtain ⟨m1, hm1⟩ : ∃ m, (catL CS k).length = m := ⟨_, rfl⟩
      obtain ⟨m2, hm2⟩ : ∃ m, C.length = m := ⟨_, rfl⟩
      rw [hm1] at hst2 hlk2 hlk ⊢
      rw [hm2] at hst2 hlk2 cB
      have v2 : IntKind.i64.wrap ((m1 : Int) + (m2 : Int)) = (m1 : Int) + (m2 : Int) := IntWalk.i64_in _ (by omega)
      have v3 : ¬ (m1 : Int) + (m2 : Int) < 0 := by omega
      have v4 : decide ((m1 : Int) + (m2 : Int) < 0) = false := decide_eq_false (by omega)
      replace hst2 := hidden hst2
      clear hCk h1C hce hrd hst hm1 hm2
      go_wp2_with fail
      go_roundw
      case rel => exact ⟨k + 1, by go_num, by omega, by rw [hst2.out]; rfl, by trivial⟩
      case measure => simp [intOf]; omega
    · have hke : k = n := by omega
      rw [hke, catL_all CS n (by have := hcl.out; omega)]
      clear hlt hlk v1
      have hk9 : decide ((n : Int) < (n : Int)) = false := by simp
      obtain ⟨M, hM⟩ : ∃ M, CS.flatten.length = M := ⟨_, rfl⟩
      rw [hM] at hl ⊢
      have hg1 := hgr.out M (by omega) w
      replace hg1 := hidden hg1
      replace hM := hidden hM
      clear hgr
      go_wp2_with fail
      refine hg1.out.mono ?_
      rintro e w3 ⟨v3, rfl, hO3, hX3⟩
      have hO3' : Hid (w3.ownsRow w.heap.size 22 1 v3 (catL CS 0).length (catL CS 0)) := hidden hO3
      replace hX3 := hidden hX3
      clear hO3 hg1
      go_wp2_with fail
      go_loopw [6, 27] (fun u i wr => ∃ (k : Nat), i = .int .i64 (k : Int) ∧ k ≤ n ∧ Hid (wr.ownsRow w.heap.size 22 1 u (catL CS k).length (catL CS k)) ∧ Hid (Ext w wr)) (fun _ i _ => n - (intOf i).toNat)
      case atStart => exact ⟨0, rfl, by omega, hO3', hX3⟩
      case round =>
        clear hO3' hX3
        obtain ⟨k, rfl, hk, hO, hX⟩ := hrel
        have v1 : IntKind.i64.wrap ((k : Int) + 1) = (k : Int) + 1 := IntWalk.i64_in _ (by omega)
        obtain ⟨w4, hWW⟩ : ∃ X, X = wr := ⟨_, rfl⟩
        subst hWW
        have hlk := catL_len CS k
        rw [hM.out] at hlk
        by_cases hlt : k < n
        · have hlt2 : (k : Int) < (n : Int) := by omega
          obtain ⟨a, c, C, b, off, rfl, hCk, h1C, hce, hrd⟩ := hcel.out k hlt
          have cB := hce w4 hX.out
          have hrd4 := hrd w4 hX.out
          have hst := catL_succ CS k C hCk
          have hlk2 := catL_len CS (k + 1)
          rw [hst, List.length_append, hM.out] at hlk2
          obtain ⟨D, hD⟩ : ∃ D, catL CS k = D := ⟨_, rfl⟩
          rw [hD] at hO hst hlk hlk2
          obtain ⟨av, cv, rfl, s1, s2, -⟩ := own_shape hO.out
          obtain ⟨m1, hm1⟩ : ∃ m, D.length = m := ⟨_, rfl⟩
          obtain ⟨m2, hm2⟩ : ∃ m, C.length = m := ⟨_, rfl⟩
          have hO' : Hid (w4.ownsRow w.heap.size 22 1 (.slice av m1 cv) m1 D) := hidden (by rw [← hm1]; exact hO.out)
          rw [hm1] at s1 hlk hlk2 ⊢
          rw [hm2] at hlk2 cB hrd4
          have hws := hX.out.size
          replace hst := hidden hst
          replace hrd4 := hidden hrd4
          replace hm1 := hidden hm1
          replace hm2 := hidden hm2
          clear hCk hce hrd hD hO
          go_wp2_with (at_builtin; refine wpList_append_rd (by rfl) _ _ 26 (by rfl) w.heap.size 22 i0 (.slice none 0 0) 1 24 Try.underlying26 hi.out hz0 hz1 hz2 rfl (by decide) (.slice av m1 cv) m1 D (by rfl) hO'.out a m2 c C (by rfl) hrd4.out h1C (by unfold maxLen; omega) (by omega) hws ?_; intro v6 w6 hown hgrow hb3)
          have hX6 : Ext w w6 := Chg.ext ((Chg.of_ext [] hX.out).grown hgrow (fun y hy => Or.inr (own_lt hO'.out hy).1))
          exact ⟨⟨k + 1, by go_num, by omega, hidden (by rw [hst.out, List.length_append, hm1.out, hm2.out]; exact hown), hidden hX6⟩, by simp [intOf]; omega⟩
        · have hke : k = n := by omega
          have hO2 := hO.out
          rw [hke, catL_all CS n (by have := hcl.out; omega)] at hO2
          have hk8 : decide ((k : Int) < (n : Int)) = false := decide_eq_false (by omega)
          replace hO2 := hidden hO2
          clear hO
          go_wp2_with fail
          go_ret
          exact ⟨_, rfl, by rw [← hM.out]; exact hO2.out, hX.out⟩
end Go.Proofs.Ytpfelklhejpnnaa

/- Byte strings in memory: RL; slices.IndexFunc and ContainsFunc over them. -/
namespace Go.Proofs.Ytpfelklhejpnnaa
open Go.RowKit
set_option linter.unusedVariables false
set_option linter.unusedSimpArgs false
attribute [local go_sem ↓] Go.wp_at_zero Go.wp_at_succ

/-- Byte strings that are read. -/
def RL (w : World) (v : Value) (L : List (List Int)) : Prop := ∃ vs, Rd w 1 v L.length vs ∧ RdC w vs (L.map bs)
theorem RL.ext {w w' : World} {v : Value} {L : List (List Int)} (h : RL w v L) (k : Ext w w') : RL w' v L := by
  obtain ⟨vs, h1, h2⟩ := h
  exact ⟨vs, h1.ext k, h2.ext k⟩
theorem RL.shape {w : World} {v : Value} {L : List (List Int)} (h : RL w v L) : ∃ a cap, v = .slice a L.length cap ∧ L.length ≤ cap ∧ cap ≤ maxLen := by
  obtain ⟨vs, h1, h2⟩ := h
  obtain ⟨ad, cap, hv, q1, q2, q3⟩ := Rd.shape h1
  exact ⟨ad, cap, hv, q1, q2⟩
theorem RL.nil (w : World) : RL w (.slice none 0 0) [] := ⟨[], Rd.nil w 1, rfl, fun i v C h _ => by simp at h⟩
/-- A row of them. -/
theorem RL.row {w : World} {ad : Option Addr} {n cap : Nat} {L : List (List Int)} (h : RL w (.slice ad n cap) L) (k : Nat) (hk : k < n) :
    ∃ b off a c, ad = some ⟨b, off, none⟩ ∧ w.cell? ⟨b, off + k, none⟩ = some (.slice a (L.getD k []).length c) ∧ Rd8 w (.slice a (L.getD k []).length c) (L.getD k []) := by
  obtain ⟨vs, h1, h2⟩ := h
  obtain ⟨ad', cap', hv, q1, q2, q3⟩ := Rd.shape h1
  simp only [Value.slice.injEq] at hv
  obtain ⟨rfl, rfl, rfl⟩ := hv
  have hl : vs.length = L.length := by have := h2.1; simpa using this
  obtain ⟨b, off, e, hb, hcell⟩ := h1.cells (by omega)
  have e1 : vs[k]? = some vs[k] := List.getElem?_eq_getElem (by omega)
  have e3 : L[k]? = some L[k] := List.getElem?_eq_getElem (by omega)
  have e2 : (L.map bs)[k]? = some (bs L[k]) := by rw [List.getElem?_map, e3]; rfl
  have hg : L.getD k [] = L[k] := by simp [List.getD, e3]
  have hr := h2.2 k _ _ e1 e2
  rw [bs_len] at hr
  obtain ⟨a, c, hs, -, -, -⟩ := Rd.shape hr
  have hce := hcell k (by omega)
  rw [List.getD_eq_getElem?_getD, e1] at hce
  rw [hs] at hr
  refine ⟨b, off, a, c, e, ?_, ?_⟩
  · rw [hg]
    rw [show (some vs[k]).getD undef = vs[k] from rfl, hs] at hce
    exact hce
  · rw [hg]; exact hr
theorem RL.len {w : World} {ad : Option Addr} {n cap : Nat} {L : List (List Int)} (h : RL w (.slice ad n cap) L) : L.length = n := by
  obtain ⟨a, c, e, -, -⟩ := h.shape
  simp only [Value.slice.injEq] at e
  exact e.2.1.symm
/-- The first byte string for which something holds, or -1. -/
def ixF (p : List Int → Bool) (L : List (List Int)) : Int := match L.findIdx? p with | some i => (i : Int) | none => -1
theorem ixF_some {p : List Int → Bool} {L : List (List Int)} {k : Nat} (hk : k < L.length) (h : p (L.getD k []) = true) (hb : ∀ j, j < k → p (L.getD j []) = false) : ixF p L = (k : Int) := by
  have : L.findIdx? p = some k := by
    rw [List.findIdx?_eq_some_iff_getElem]
    refine ⟨hk, ?_, fun j hj => ?_⟩
    · simpa [List.getD, hk] using h
    · have := hb j hj
      rw [List.getD_eq_getElem?_getD, List.getElem?_eq_getElem (by omega)] at this
      simpa using this
  unfold ixF
  rw [this]
theorem ixF_none {p : List Int → Bool} {L : List (List Int)} (hb : ∀ j, j < L.length → p (L.getD j []) = false) : ixF p L = -1 := by
  have : L.findIdx? p = none := by
    rw [List.findIdx?_eq_none_iff]
    intro x hx
    obtain ⟨j, hj, rfl⟩ := List.mem_iff_getElem.1 hx
    have := hb j hj
    rw [List.getD_eq_getElem?_getD, List.getElem?_eq_getElem hj] at this
    simpa using this
  unfold ixF
  rw [this]
theorem ixF_any (p : List Int → Bool) (L : List (List Int)) : decide (0 ≤ ixF p L) = L.any p := by
  cases h : L.findIdx? p with
  | none =>
    rw [List.findIdx?_eq_none_iff] at h
    unfold ixF
    rw [List.findIdx?_eq_none_iff.2 h]
    rw [show L.any p = false from by rw [List.any_eq_false]; intro x hx; simp [h x hx]]
    rfl
  | some i =>
    unfold ixF
    rw [h]
    rw [List.findIdx?_eq_some_iff_getElem] at h
    obtain ⟨hi, hp, -⟩ := h
    rw [show L.any p = true from List.any_eq_true.2 ⟨_, List.getElem_mem hi, hp⟩]
    exact decide_eq_true (show (0 : Int) ≤ (i : Int) by omega)

set_option maxRecDepth 100000 in
theorem index0_any (g : Nat) (p : List Int → Bool) (v : Value) (L : List (List Int)) (hn : L.length ≤ 1000000) (w : World) (hr : RL w v L) (hent : ∀ args w, (callFunc g args).run Try.prog w = .ok (.enter g args) w)
    (hf : ∀ k, k < L.length → ∀ u W, Ext w W → Rd8 W u (L.getD k []) → Calls Try.prog g #[u] W fun e w' => e = .returned (.bool (p (L.getD k []))) ∧ Ext W w') :
    Calls Try.prog 39 #[v, .func (.func g) #[] #[]] w fun e w' => e = .returned (.int .i64 (ixF p L)) ∧ Ext w w' := by
  obtain ⟨ad, cap, rfl, q1, q2⟩ := hr.shape
  obtain ⟨n, hnn⟩ : ∃ n, L.length = n := ⟨_, rfl⟩
  rw [hnn] at hn hf q1 hr ⊢
  replace hf := hidden hf
  replace hr := hidden hr
  go_enter Try.func39, Try.ntmps39
  go_wp2_with fail
  go_loopw [8] (fun i wr => ∃ k : Nat, i = .int .i64 (k : Int) ∧ k ≤ n ∧ Hid (∀ j, j < k → p (L.getD j []) = false) ∧ Hid (Ext w wr)) (fun i _ => n - (intOf i).toNat)
  case atStart => exact ⟨0, rfl, by omega, hidden (fun j hj => absurd hj (Nat.not_lt_zero _)), hidden (Ext.refl w)⟩
  case round =>
    obtain ⟨k, rfl, hk, hb, hX⟩ := hrel
    have v1 : IntKind.i64.wrap ((k : Int) + 1) = (k : Int) + 1 := IntWalk.i64_in _ (by omega)
    obtain ⟨w4, hWW⟩ : ∃ X, X = wr := ⟨_, rfl⟩
    subst hWW
    by_cases hlt : k < n
    · have hlt2 : (k : Int) < (n : Int) := by omega
      obtain ⟨b, off, a, c, rfl, cB, hrd⟩ := (hr.out.ext hX.out).row k hlt
      have hc := hf.out k hlt _ w4 hX.out hrd
      obtain ⟨m, hm⟩ : ∃ m, (L.getD k []).length = m := ⟨_, rfl⟩
      obtain ⟨r, hrr⟩ : ∃ r, p (L.getD k []) = r := ⟨_, rfl⟩
      rw [hm] at cB hc
      rw [hrr] at hc
      replace hc := hidden hc
      replace hrr := hidden hrr
      clear hrd hm
      go_wp2_with fail
      refine hc.out.mono ?_
      rintro e w5 ⟨rfl, hX5⟩
      have hX6 : Hid (Ext w w5) := hidden (hX.out.trans hX5)
      clear hX5 hc
      cases hr2 : r with
      | true =>
        rw [hr2] at hrr
        have hres := ixF_some (by omega) hrr.out hb.out
        replace hres := hidden hres
        clear hrr hr2
        go_wp2_with fail
        go_ret
        exact ⟨by rw [hres.out]; rfl, hX6.out⟩
      | false =>
        rw [hr2] at hrr
        clear hr2
        go_wp2_with fail
        go_roundw
        case rel => exact ⟨k + 1, by go_num, by omega, hidden (fun j hj => by
          by_cases hjk : j = k
          · rw [hjk]; exact hrr.out
          · exact hb.out j (by omega)), hX6⟩
        case measure => simp [intOf]; omega
    · have hke : k = n := by omega
      have hk9 : decide ((k : Int) < (n : Int)) = false := decide_eq_false (by omega)
      have hres := ixF_none (p := p) (L := L) (fun j hj => hb.out j (by omega))
      replace hres := hidden hres
      go_wp2_with fail
      go_ret
      exact ⟨by rw [hres.out]; rfl, hX.out⟩

set_option maxRecDepth 100000 in
theorem contains0_any (g : Nat) (p : List Int → Bool) (v : Value) (L : List (List Int)) (hn : L.length ≤ 1000000) (w : World) (hr : RL w v L) (hent : ∀ args w, (callFunc g args).run Try.prog w = .ok (.enter g args) w)
    (hf : ∀ k, k < L.length → ∀ u W, Ext w W → Rd8 W u (L.getD k []) → Calls Try.prog g #[u] W fun e w' => e = .returned (.bool (p (L.getD k []))) ∧ Ext W w') :
    Calls Try.prog 24 #[v, .func (.func g) #[] #[]] w fun e w' => e = .returned (.bool (L.any p)) ∧ Ext w w' := by
  have hix := index0_any g p v L hn w hr hent hf
  have hres := ixF_any p L
  obtain ⟨q, hq⟩ : ∃ q, ixF p L = q := ⟨_, rfl⟩
  obtain ⟨t, ht⟩ : ∃ t, L.any p = t := ⟨_, rfl⟩
  rw [hq] at hix hres
  rw [ht] at hres ⊢
  clear hf hr hent hq ht
  replace hix := hidden hix
  go_enter Try.func24, Try.ntmps24
  go_wp2_with fail
  refine hix.out.mono ?_
  rintro e w5 ⟨rfl, hX5⟩
  go_wp2_with fail
  go_ret
  exact ⟨rfl, hX5⟩

set_option maxRecDepth 100000 in
theorem index1_any (g : Nat) (x : Nat) (p : List Int → Bool) (v : Value) (L : List (List Int)) (hn : L.length ≤ 1000000) (w : World) (hr : RL w v L) (hent : ∀ args w, (callFunc g args).run Try.prog w = .ok (.enter g args) w)
    (hf : ∀ k, k < L.length → ∀ u W, Ext w W → Rd8 W u (L.getD k []) → Calls Try.prog g #[u, .pointer (some ⟨x, 0, none⟩)] W fun e w' => e = .returned (.bool (p (L.getD k []))) ∧ Ext W w') :
    Calls Try.prog 39 #[v, .func (.func g) #[] #[.pointer (some ⟨x, 0, none⟩)]] w fun e w' => e = .returned (.int .i64 (ixF p L)) ∧ Ext w w' := by
  obtain ⟨ad, cap, rfl, q1, q2⟩ := hr.shape
  obtain ⟨n, hnn⟩ : ∃ n, L.length = n := ⟨_, rfl⟩
  rw [hnn] at hn hf q1 hr ⊢
  replace hf := hidden hf
  replace hr := hidden hr
  go_enter Try.func39, Try.ntmps39
  go_wp2_with fail
  go_loopw [8] (fun i wr => ∃ k : Nat, i = .int .i64 (k : Int) ∧ k ≤ n ∧ Hid (∀ j, j < k → p (L.getD j []) = false) ∧ Hid (Ext w wr)) (fun i _ => n - (intOf i).toNat)
  case atStart => exact ⟨0, rfl, by omega, hidden (fun j hj => absurd hj (Nat.not_lt_zero _)), hidden (Ext.refl w)⟩
  case round =>
    obtain ⟨k, rfl, hk, hb, hX⟩ := hrel
    have v1 : IntKind.i64.wrap ((k : Int) + 1) = (k : Int) + 1 := IntWalk.i64_in _ (by omega)
    obtain ⟨w4, hWW⟩ : ∃ X, X = wr := ⟨_, rfl⟩
    subst hWW
    by_cases hlt : k < n
    · have hlt2 : (k : Int) < (n : Int) := by omega
      obtain ⟨b, off, a, c, rfl, cB, hrd⟩ := (hr.out.ext hX.out).row k hlt
      have hc := hf.out k hlt _ w4 hX.out hrd
      obtain ⟨m, hm⟩ : ∃ m, (L.getD k []).length = m := ⟨_, rfl⟩
      obtain ⟨r, hrr⟩ : ∃ r, p (L.getD k []) = r := ⟨_, rfl⟩
      rw [hm] at cB hc
      rw [hrr] at hc
      replace hc := hidden hc
      replace hrr := hidden hrr
      clear hrd hm
      go_wp2_with fail
      refine hc.out.mono ?_
      rintro e w5 ⟨rfl, hX5⟩
      have hX6 : Hid (Ext w w5) := hidden (hX.out.trans hX5)
      clear hX5 hc
      cases hr2 : r with
      | true =>
        rw [hr2] at hrr
        have hres := ixF_some (by omega) hrr.out hb.out
        replace hres := hidden hres
        clear hrr hr2
        go_wp2_with fail
        go_ret
        exact ⟨by rw [hres.out]; rfl, hX6.out⟩
      | false =>
        rw [hr2] at hrr
        clear hr2
        go_wp2_with fail
        go_roundw
        case rel => exact ⟨k + 1, by go_num, by omega, hidden (fun j hj => by
          by_cases hjk : j = k
          · rw [hjk]; exact hrr.out
          · exact hb.out j (by omega)), hX6⟩
        case measure => simp [intOf]; omega
    · have hke : k = n := by omega
      have hk9 : decide ((k : Int) < (n : Int)) = false := decide_eq_false (by omega)
      have hres := ixF_none (p := p) (L := L) (fun j hj => hb.out j (by omega))
      replace hres := hidden hres
      go_wp2_with fail
      go_ret
      exact ⟨by rw [hres.out]; rfl, hX.out⟩

set_option maxRecDepth 100000 in
theorem contains1_any (g : Nat) (x : Nat) (p : List Int → Bool) (v : Value) (L : List (List Int)) (hn : L.length ≤ 1000000) (w : World) (hr : RL w v L) (hent : ∀ args w, (callFunc g args).run Try.prog w = .ok (.enter g args) w)
    (hf : ∀ k, k < L.length → ∀ u W, Ext w W → Rd8 W u (L.getD k []) → Calls Try.prog g #[u, .pointer (some ⟨x, 0, none⟩)] W fun e w' => e = .returned (.bool (p (L.getD k []))) ∧ Ext W w') :
    Calls Try.prog 24 #[v, .func (.func g) #[] #[.pointer (some ⟨x, 0, none⟩)]] w fun e w' => e = .returned (.bool (L.any p)) ∧ Ext w w' := by
  have hix := index1_any g x p v L hn w hr hent hf
  have hres := ixF_any p L
  obtain ⟨q, hq⟩ : ∃ q, ixF p L = q := ⟨_, rfl⟩
  obtain ⟨t, ht⟩ : ∃ t, L.any p = t := ⟨_, rfl⟩
  rw [hq] at hix hres
  rw [ht] at hres ⊢
  clear hf hr hent hq ht
  replace hix := hidden hix
  go_enter Try.func24, Try.ntmps24
  go_wp2_with fail
  refine hix.out.mono ?_
  rintro e w5 ⟨rfl, hX5⟩
  go_wp2_with fail
  go_ret
  exact ⟨rfl, hX5⟩
end Go.Proofs.Ytpfelklhejpnnaa
