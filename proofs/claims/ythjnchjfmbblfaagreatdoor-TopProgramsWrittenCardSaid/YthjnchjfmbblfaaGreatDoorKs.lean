/- General: ranges over functions: what the body keeps; regions of their bodies. -/
import Derived.Test.YthjnchjfmbblfaaGreatDoorHu
import Derived.Test.YthjnchjfmbblfaaGreatDoorUx
import Derived.ControlIn
import Derived.RangeFuncNested
import Derived.RangeFuncBound
import Derived.RangeFuncCalls
import Derived.RangeFuncLeaves
import Derived.Shelf.Abstract
import Derived.Shelf.RegionOpen
import Derived.OwnWalkIn
import Derived.TacticsInMore
import Derived.LoopNIn
import Derived.LoopIn
import Derived.Deep.DeepAppendRoom
import Derived.BigQuiet
import Derived.Deep.Cut
import Derived.Deep.QuietTactic
import Derived.Outline
import Derived.Laws.Rows
namespace Go.Proofs.YthjnchjfmbblfaaGreatDoor
open Go.RowKit Go.Shelf
set_option linter.unusedVariables false
set_option linter.unusedSimpArgs false

/-- Blocks that lie as they lay. -/
def KeepS (S : List Nat) (W W' : World) : Prop := ∀ x ∈ S, W'.heap[x]? = W.heap[x]?
theorem KeepS.refl (S : List Nat) (W : World) : KeepS S W W := fun _ _ => rfl
theorem KeepS.trans {S : List Nat} {A B C : World} (h : KeepS S A B) (k : KeepS S B C) : KeepS S A C := fun x hx => (k x hx).trans (h x hx)
theorem KeepS.ext {S : List Nat} {A B : World} (h : Ext A B) (hS : ∀ x ∈ S, x < A.heap.size) : KeepS S A B := fun x hx => by
  have h' : Below A.heap.size A B := h
  exact h'.block x (hS x hx)
theorem KeepS.chg {S T : List Nat} {A B : World} (h : Chg T A B) (hS : ∀ x ∈ S, x < A.heap.size ∧ x ∉ T) : KeepS S A B := fun x hx => h.block x (hS x hx).1 (hS x hx).2
theorem keepS_b {S : List Nat} {w : World} (hS : ∀ x ∈ S, x < w.heap.size) (W : World) (l : Nat) (o o' : Obj) (hl : w.heap.size ≤ l) (_ : W.heap[l]? = some o) (_ : o.isCells = false) (_ : o.isWalk = false) : KeepS S W (W.putObj l o') :=
  fun x hx => World.putObj_heap_other (fun e => by have := hS x hx; omega)
theorem Ext.grown {A B : World} (h : Ext A B) : A.grownBy B none := by
  have h' : Below A.heap.size A B := h
  exact ⟨h'.os, h'.tape, h'.output, h'.size, fun k hk _ => h'.block k hk⟩
theorem Rd.keep {S : List Nat} {w w' : World} {sz n : Nat} {v : Value} {cs : List Value} (h : Rd w sz v n cs) (k : KeepS S w w') (hs : 0 < n → ∀ g, v.ownBlock = some g → g ∈ S) (hz : w.heap.size ≤ w'.heap.size) : Rd w' sz v n cs := by
  obtain ⟨h1, a, cap, h2, h3, h4, h5, h6⟩ := h
  refine ⟨h1, a, cap, h2, h3, h4, h5, fun hn => ?_⟩
  obtain ⟨b, off, e, hb, hc⟩ := h6 hn
  refine ⟨b, off, e, by omega, fun j hj => ?_⟩
  rw [World.cell?_of_block (w := w) (w' := w') (a := ⟨b, off + j, none⟩) (k b (hs hn b (by rw [h2, e]; rfl)))]
  exact hc j hj
theorem Blk.keep {S : List Nat} {w w' : World} {b : Nat} {t : TypeId} {cs : List Value} (h : Blk w b t cs) (k : KeepS S w w') (hs : b ∈ S) : Blk w' b t cs := by
  unfold Blk at h ⊢
  rw [k b hs]; exact h
theorem Blk.newAt (w : World) (cs : List Value) (t : TypeId) (k : Nat) (h : w.heap.size = k) : Blk (w.alloc (.cells cs.toArray t)) k t cs := by subst h; exact Blk.new w cs t
/-- The block of a slice that holds some. -/
def dataS (v : Value) (n : Nat) : List Nat := if 0 < n then v.ownBlock.toList else []
theorem dataS_lt {w : World} {v : Value} {D : List Int} (h : Rd8 w v D) : ∀ x ∈ dataS v D.length, x < w.heap.size := by
  intro x hx
  unfold dataS at hx
  split at hx
  · next hn =>
    obtain ⟨_, a', cap', rfl, _, _, _, h6⟩ := h
    obtain ⟨b', off', rfl, hb, -⟩ := h6 hn
    simp [Value.ownBlock] at hx
    omega
  · cases hx
theorem keepz_t {S : List Nat} {A B C : World} (h : KeepS S A B ∧ A.heap.size ≤ B.heap.size) (k : KeepS S B C ∧ B.heap.size ≤ C.heap.size) : KeepS S A C ∧ A.heap.size ≤ C.heap.size := ⟨h.1.trans k.1, by omega⟩
theorem keepz_b {S : List Nat} {w : World} (hS : ∀ x ∈ S, x < w.heap.size) (W : World) (l : Nat) (o o' : Obj) (hl : w.heap.size ≤ l) (h1 : W.heap[l]? = some o) (h2 : o.isCells = false) (h3 : o.isWalk = false) : KeepS S W (W.putObj l o') ∧ W.heap.size ≤ (W.putObj l o').heap.size :=
  ⟨keepS_b hS W l o o' hl h1 h2 h3, by simp⟩
def upF (n k : Nat) : List (Fin n) := (List.finRange n).take k
theorem upF_len {n k : Nat} (h : k ≤ n) : (upF n k).length = k := by simp [upF, h]
theorem upF_succ {n k : Nat} (h : k < n) : upF n (k + 1) = upF n k ++ [⟨k, h⟩] := by
  unfold upF
  rw [List.take_add_one, List.getElem?_eq_getElem (by simpa using h)]
  simp
theorem upF_all (n : Nat) : upF n n = List.finRange n := by unfold upF; rw [List.take_of_length_le (by simp)]
theorem blk_own {β : Type} (b : Nat) (t : TypeId) (f : β → List Value) : Own (fun s W => Blk W b t (f s)) := fun s X Y row hs hg hrow =>
  hs.grown hg (fun e' => by obtain ⟨o, ho, hc⟩ := hrow b e'; rw [show X.heap[b]? = _ from hs] at ho; cases ho; cases hc)
/-- Cells that lie as they lay, but for some blocks. -/
def KeepT (T : List Nat) (A B : World) : Prop := (∀ x, x ∉ T → ∀ o, A.heap[x]? = some o → o.isCells = true → B.heap[x]? = some o) ∧ A.heap.size ≤ B.heap.size
theorem KeepT.refl (T : List Nat) (A : World) : KeepT T A A := ⟨fun _ _ _ h _ => h, Nat.le_refl _⟩
theorem keepT_t {T : List Nat} {A B C : World} (h : KeepT T A B) (k : KeepT T B C) : KeepT T A C := ⟨fun x hx o ho hc => k.1 x hx o (h.1 x hx o ho hc) hc, by have := h.2; have := k.2; omega⟩
theorem keepT_b {T : List Nat} (W : World) (l : Nat) (o o' : Obj) (h1 : W.heap[l]? = some o) (h2 : o.isCells = false) : KeepT T W (W.putObj l o') :=
  ⟨fun x hx o2 ho hc => by
    rw [World.putObj_heap_other (fun e => by subst e; rw [h1] at ho; cases ho; rw [h2] at hc; cases hc)]
    exact ho, by simp⟩
theorem KeepT.of_ext {T : List Nat} {A B : World} (h : Ext A B) : KeepT T A B := by
  have h' : Below A.heap.size A B := h
  exact ⟨fun x hx o ho hc => by rw [h'.block x (Array.getElem?_eq_some_iff.1 ho).1]; exact ho, h'.size⟩
theorem KeepT.of_chg {T S : List Nat} {A B : World} (h : Chg S A B) (hS : ∀ x ∈ S, x ∈ T) : KeepT T A B :=
  ⟨fun x hx o ho hc => by rw [h.block x (Array.getElem?_eq_some_iff.1 ho).1 (fun hm => hx (hS x hm))]; exact ho, h.size⟩
theorem Blk.keepT {T : List Nat} {w w' : World} {b : Nat} {t : TypeId} {cs : List Value} (h : Blk w b t cs) (k : KeepT T w w') (hb : b ∉ T) : Blk w' b t cs := k.1 b hb _ h rfl
theorem chg_keeps {S : List Nat} {W W' : World} (h : Chg S W W') (hS : ∀ x ∈ S, ∀ o, W.heap[x]? = some o → o.isCells = true) : KeepsOthers W W' :=
  ⟨h.size, fun k o hk ho => by
    rw [h.block k (Array.getElem?_eq_some_iff.1 hk).1 (fun hm => by rw [hS k hm o hk] at ho; cases ho)]
    exact hk⟩
theorem chg_below {S : List Nat} {w W W' : World} (hB : Below w.heap.size w W) (h : Chg S W W') (hS : ∀ x ∈ S, w.heap.size ≤ x) : Below w.heap.size w W' := by
  have h1 : Ext w W := hB
  exact Chg.ext (((Chg.of_ext [] h1)).trans h (fun x hx => Or.inr (hS x hx)))
theorem own8_own {β : Type} (B d cap : Nat) (k : β → Nat) (f : β → List Int) (hk : ∀ s, (f s).length = k s) : Own (fun s W => Own8 W B (.slice (some ⟨d, 0, none⟩) (k s) cap) (f s)) := fun s X Y row hs hg hrow => by
  have hs' : Own8 X B (.slice (some ⟨d, 0, none⟩) (k s) cap) (f s) := hs
  refine ⟨hs'.1, ?_⟩
  rcases hs'.2 with ⟨h1, _⟩ | ⟨g, c, cur, hv, hb, hgg, h2, h3, h4, h5⟩
  · cases h1
  · refine Or.inr ⟨g, c, cur, hv, hb, ?_, h2, h3, h4, h5⟩
    rw [grownBy_keeps_cells hg hrow hgg rfl]
    exact hgg
/-- The beginning of a region that draws its order, in a round of a range over a function. -/
theorem wpIn_round_D {P : Program} {id l n : Nat} {ops : Array Oper} {Q : Exit → Act → World → Prop} {a : Act} {w : World} {S : World → Prop} {D : List Nat} (hm : P.follows .mixedOrders = true) (hLO : ¬ LetsOut Q)
    (hd : ops.all noDeferB = true) (hS : S w.drew)
    (h : S w.drew → wpAnyD P .any ops Q S D ops.size (Array.replicate ops.size false) a w.drew) : (Code.region id ops true).wpIn (Fence.wide.inRound l) n P Q a w :=
  wpIn_region_any hm (wpAnyIn_round hLO (noDefer_of hd) _ _ _ _ (wpAny_of_D _ _ _ _ (h hS)))
/-- An append that finds room, to an own row. -/
theorem appendRoomD {P : Program} {md : Region.Mode} {ops : Array Oper} {Q : Exit → Act → World → Prop} {S : World → Prop} {D : List Nat} {fuel : Nat} {listed : Array Bool} (i : Nat) {oi : Oper} {dd : Tmp} {a : Act} {w : World} (hii : ops[i]? = some oi) (hd : oi.dst = some dd) (gi : oi.guard = none)
    (hrd : Region.ready md ops listed = [i]) (s x : Operand) (t : TypeId)
    (ho : oi.op = .call { callee := .builtin .append, args := #[s, x], argTypes := #[t, t] })
    (base : Nat) (e : TypeId) (i1 : TypeInfo) (size : Nat) (ht : P.underlying t = some (.slice e)) (hi : P.info? e = some i1) (hsize : i1.size = size)
    (g n cap : Nat) (xs : List Value) (hs : a.eval s = .slice (some ⟨g, 0, none⟩) n cap) (hown : w.ownsRow base e size (.slice (some ⟨g, 0, none⟩) n cap) n xs)
    (y : Option Addr) (m c : Nat) (news : List Value) (hx : a.eval x = .slice y m c) (hr : Rd w size (.slice y m c) m news) (h1 : ∀ u ∈ news, u.oneCell' = true)
    (hroom : n + m ≤ cap) (hm : 0 < m)
    (h : ∀ w', w'.ownsRow base e size (.slice (some ⟨g, 0, none⟩) (n + m) cap) (n + m) (xs ++ news) → w.grownBy w' (some g) →
      (i ∉ D → S w') ∧ wpAnyD P md ops Q S D fuel (listed.setIfInBounds i true) { a with tmps := a.tmps.setIfInBounds dd (.slice (some ⟨g, 0, none⟩) (n + m) cap) } w') :
    wpAnyD P md ops Q S D (fuel + 1) listed a w := by
  obtain ⟨ad, rfl⟩ : ∃ ad, y = some ad := by
    obtain ⟨b, off, e, -⟩ := hr.cells hm
    exact ⟨_, e⟩
  obtain ⟨w', hrr, h2, h3⟩ := run_append_own_spare (P := P) w base t oi.type e i1 size ht hi hsize g n cap xs hown ad m c news hr.1 (Rd.news hr) h1 hroom
  obtain ⟨hS, hh⟩ := h w' h2 h3
  refine valueD i _ hii hd hrd (by unfold Region.wanted; rw [gi]) (w' := w') ?_ hS hh
  unfold execOp
  simp only [ho, resolve, invoke, builtin, Sem.run_bind, Sem.run_pure, Result.andThen_ok, List.map_toArray, List.map_cons, List.map_nil, hs, hx, hrr]
theorem rd_of_blkS {w : World} {b n sz : Nat} {T : TypeId} {cs : List Value} (h : Blk w b T cs) (hl : cs.length = n * sz) (hn : n ≤ 1000) : Rd w sz (.slice (some ⟨b, 0, none⟩) n n) n cs := by
  refine ⟨hl, _, _, rfl, Nat.le_refl _, by unfold maxLen; omega, (fun e => by cases e), fun _ => ⟨b, 0, rfl, h.lt, fun j hj => ?_⟩⟩
  rw [Nat.zero_add]
  exact h.cell j _ (by simp [List.getD, List.getElem?_eq_getElem hj])
theorem up_snoc {n k : Nat} {ini : List (Fin n)} {x : Fin n} (hk : k ≤ n) (h : ini ++ [x] = upF n k) : ini = upF n x.val ∧ k = x.val + 1 := by
  have hl : ini.length + 1 = k := by
    have := congrArg List.length h
    rw [upF_len hk, List.length_append] at this
    exact this
  obtain ⟨j, rfl⟩ : ∃ j, k = j + 1 := ⟨k - 1, by omega⟩
  rw [upF_succ (by omega)] at h
  obtain ⟨h1, h2⟩ := List.append_inj h (by rw [upF_len (by omega)]; omega)
  have h3 : x = ⟨j, by omega⟩ := by simpa using h2
  subst h3
  exact ⟨h1, rfl⟩
theorem mem_up {n k : Nat} (hk : k ≤ n) (i : Nat) (hi : i < k) : (⟨i, by omega⟩ : Fin n) ∈ upF n k := by
  unfold upF
  rw [List.mem_take_iff_getElem]
  exact ⟨i, by simp; omega, by simp⟩
theorem callVD {P : Program} {md : Region.Mode} {ops : Array Oper} {Q : Exit → Act → World → Prop} {S : World → Prop} {D : List Nat} (i : Nat) {oi : Oper} {d : Tmp} {fuel : Nat} {listed : Array Bool} {a : Act} {w : World} (f : FuncId) (args : Array Value) {R : Ending → World → Prop} (hi : ops[i]? = some oi) (hd : oi.dst = some d)
    (hr : Region.ready md ops listed = [i]) (hw : Region.wanted oi (yielded ops a.tmps) = true) (hrun : (execOp a.eval oi).run P w = .ok (.enter f args) w) (hc : Calls P f args w R)
    (h : ∀ e w', R e w' → (∃ v, e = .returned v ∧ (i ∉ D → S w') ∧ wpAnyD P md ops Q S D fuel (listed.setIfInBounds i true) { a with tmps := a.tmps.setIfInBounds d v } w') ∨ (∃ c, e = .panicked c ∧ Q (.panic c) a w')) : wpAnyD P md ops Q S D (fuel + 1) listed a w :=
  callD i f args hi hr hw hrun hc (by rw [hd]; exact h)
theorem blk_newAt' (w : World) (cs : List Value) (t : TypeId) (b : Nat) (hb : w.heap.size = b) : Blk (w.alloc (.cells cs.toArray t)) b t cs := hb ▸ Blk.new w cs t
section
variable {P : Program} {md : Region.Mode} {ops : Array Oper} {Q : Exit → Act → World → Prop} {S : World → Prop}
theorem valueU {D : List Nat} (i : Nat) (v : Value) {oi : Oper} {d : Tmp} {fuel : Nat} {listed : Array Bool} {a : Act} {w w' : World} (hi : ops[i]? = some oi) (hd : oi.dst = some d)
    (hw : Region.wanted oi (yielded ops a.tmps) = true) (hrun : (execOp a.eval oi).run P w = .ok (.value v) w') (hS : i ∉ D → S w')
    (h : wpAnyD P md ops Q S D fuel (listed.setIfInBounds i true) { a with tmps := a.tmps.setIfInBounds d v } w') : wpOp P ops Q i (fun a' w' => (i ∉ D → S w') ∧ wpAnyD P md ops Q S D fuel (listed.setIfInBounds i true) a' w') a w := by
  unfold wpOp
  simp only [hi, hw, if_true]
  left
  unfold Oper.wp
  rw [hrun]
  show (i ∉ D → S w') ∧ wpAnyD P md ops Q S D fuel _ (a.put oi.dst v) w'
  rw [hd]
  exact ⟨hS, h⟩
theorem callU {D : List Nat} (i : Nat) {oi : Oper} {d : Tmp} {fuel : Nat} {listed : Array Bool} {a : Act} {w : World} (f : FuncId) (args : Array Value) {R : Ending → World → Prop} (hi : ops[i]? = some oi) (hd : oi.dst = some d)
    (hw : Region.wanted oi (yielded ops a.tmps) = true) (hrun : (execOp a.eval oi).run P w = .ok (.enter f args) w) (hc : Calls P f args w R)
    (h : ∀ e w', R e w' → (∃ v, e = .returned v ∧ (i ∉ D → S w') ∧ wpAnyD P md ops Q S D fuel (listed.setIfInBounds i true) { a with tmps := a.tmps.setIfInBounds d v } w') ∨ (∃ c, e = .panicked c ∧ Q (.panic c) a w')) : wpOp P ops Q i (fun a' w' => (i ∉ D → S w') ∧ wpAnyD P md ops Q S D fuel (listed.setIfInBounds i true) a' w') a w := by
  unfold wpOp
  simp only [hi, hw, if_true]
  left
  unfold Oper.wp
  rw [hrun]
  refine Calls.mono hc ?_
  intro e w' hR
  rcases h e w' hR with ⟨v, rfl, hS, hh⟩ | ⟨c, rfl, hq⟩
  · refine ⟨hS, ?_⟩
    show wpAnyD P md ops Q S D fuel _ (a.put oi.dst v) w'
    rw [hd]
    exact hh
  · exact hq
end
end Go.Proofs.YthjnchjfmbblfaaGreatDoor
