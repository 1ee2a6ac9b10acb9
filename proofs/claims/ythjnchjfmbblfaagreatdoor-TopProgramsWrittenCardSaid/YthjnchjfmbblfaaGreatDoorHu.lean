/- A region that draws its order, in a round of a range over a function: by the law that holds what it reads (general). -/
import Derived.Test.YthjnchjfmbblfaaGreatDoorMz
import Derived.RangeFuncNested
import Derived.RangeFuncLeaves
import Derived.OrdersIn
import Derived.OrdersHeld
import Derived.Deep.RegionHeld
namespace Go.Proofs.YthjnchjfmbblfaaGreatDoor
open Go.RowKit
set_option linter.unusedVariables false

/-- An operation that is no defer statement, and about which the fence asks nothing. -/
theorem wpOpIn_round {P : Program} {ops : Array Oper} {Q : Exit → Act → World → Prop} {l n i : Nat} {K K' : Act → World → Prop} {a : Act} {w : World} (hLO : ¬ LetsOut Q)
    (hd : ∀ (j : Nat) (o : Oper), ops[j]? = some o → ∀ c, o.op ≠ .defer c) (hK : ∀ a w, K a w → K' a w) (h : wpOp P ops Q i K a w) : wpOpIn (Fence.wide.inRound l) n P ops Q i K' a w := by
  unfold wpOp at h
  unfold wpOpIn
  cases ho : ops[i]? with
  | none => simp only [ho] at h ⊢; exact hK _ _ h
  | some o =>
    simp only [ho] at h ⊢
    split
    · next hw =>
      rw [if_pos hw] at h
      rcases h with h | ⟨-, h⟩
      · refine ⟨fun _ _ => trivial, ?_⟩
        unfold Oper.wp at h
        rw [Oper.semAt_eq _ _ _ (hd i o ho)]
        generalize (execOp a.eval o).run P w = r at h ⊢
        cases r with
        | ok x w' =>
          cases x with
          | value v => exact hK _ _ h
          | skip => exact hK _ _ h
          | defer d => exact hK _ _ h
          | enter f args =>
            refine ⟨(fun e => by cases e), CallsIn.inRound l (callsIn_wide.2 (Calls.mono h ?_))⟩
            intro e w'' he
            cases e with
            | returned v => exact hK _ _ he
            | panicked c => exact he
            | outgrown => exact he
          | row row args =>
            refine ⟨(fun e => by cases e), ?_⟩
            intro c cs hroom
            obtain ⟨v, w'', hv, hs⟩ := h c cs
            exact ⟨v, w'', hK _ _ hv, stepsIn_wide.2 hs⟩
          | round l' f' t' as' b' => exact h.elim
          | _ => exact h.elim
        | halt x w' => cases x <;> exact h
      · exact absurd h hLO
    · next hw =>
      rw [if_neg hw] at h
      exact ⟨fun _ _ => trivial, hK _ _ h⟩
theorem wpAnyIn_round {P : Program} {ops : Array Oper} {Q : Exit → Act → World → Prop} {md : Region.Mode} {l n : Nat} (hLO : ¬ LetsOut Q)
    (hd : ∀ (j : Nat) (o : Oper), ops[j]? = some o → ∀ c, o.op ≠ .defer c) : ∀ (fuel : Nat) (listed : Array Bool) (a : Act) (w : World), wpAny P md ops Q fuel listed a w → wpAnyIn (Fence.wide.inRound l) n P md ops Q fuel listed a w
  | 0, _, _, _, h => h
  | fuel + 1, _, _, _, h => ⟨h.1, fun i hi => wpOpIn_round hLO hd (fun a' w' h' => wpAnyIn_round hLO hd fuel _ a' w' h') (h.2 i hi)⟩
def noDeferB (o : Oper) : Bool := match o.op with | .defer _ => false | _ => true
theorem noDefer_of {ops : Array Oper} (h : ops.all noDeferB = true) : ∀ (j : Nat) (o : Oper), ops[j]? = some o → ∀ c, o.op ≠ .defer c := fun j o ho c hc => by
  have h1 := (Array.all_eq_true_iff_forall_mem.1 h) o (Array.mem_of_getElem? ho)
  unfold noDeferB at h1
  rw [hc] at h1
  cases h1
/-- The beginning. -/
theorem wpIn_round_held {P : Program} {id l n : Nat} {ops : Array Oper} {Q : Exit → Act → World → Prop} {a : Act} {w : World} (S : World → Prop) (hm : P.follows .mixedOrders = true) (hLO : ¬ LetsOut Q)
    (hd : ops.all noDeferB = true)
    (h : wpAnyH P .any ops Q S ops.size (Array.replicate ops.size false) a w.drew) : (Code.region id ops true).wpIn (Fence.wide.inRound l) n P Q a w :=
  wpIn_region_any hm (wpAnyIn_round hLO (noDefer_of hd) _ _ _ _ (wpAny_of_held _ _ _ _ h))
/-- An operation that yields is taken first; the slot is named. -/
theorem takeH {P : Program} {md : Region.Mode} {ops : Array Oper} {Q : Exit → Act → World → Prop} {S : World → Prop} (i : Nat) {oi : Oper} (v : Value) {d : Tmp} {fuel : Nat} {listed : Array Bool} {a : Act} {w : World} (hi : ops[i]? = some oi) (hd : oi.dst = some d)
    (hs : Region.noSelect ops = true) (hf : Region.free md ops listed i = true) (hr : (Region.ready md ops listed).contains i = true)
    (hQ : ∀ c a w, Q (.panic c) (a.put oi.dst v) w → Q (.panic c) a w) (hw : Region.wanted oi (yielded ops a.tmps) = true) (hy : ∀ w, S w → (execOp a.eval oi).run P w = .ok (.value v) w) (hS : S w)
    (h : wpAnyH P md ops Q S fuel (listed.setIfInBounds i true) { a with tmps := a.tmps.setIfInBounds d v } w) : wpAnyH P md ops Q S (fuel + 1) listed a w :=
  wpAnyH_take hi hs hf hr hQ (Or.inl ⟨hw, hy⟩) hS (by rw [hd]; exact h)
/-- A call that alone may come up. -/
theorem callH {P : Program} {md : Region.Mode} {ops : Array Oper} {Q : Exit → Act → World → Prop} {S : World → Prop} (i : Nat) {oi : Oper} {d : Tmp} {fuel : Nat} {listed : Array Bool} {a : Act} {w : World} (f : FuncId) (args : Array Value) {R : Ending → World → Prop} (hi : ops[i]? = some oi) (hd : oi.dst = some d)
    (hr : Region.ready md ops listed = [i]) (hw : Region.wanted oi (yielded ops a.tmps) = true) (hrun : (execOp a.eval oi).run P w = .ok (.enter f args) w) (hc : Calls P f args w R)
    (h : ∀ e w', R e w' → ∃ v, e = .returned v ∧ S w' ∧ wpAnyH P md ops Q S fuel (listed.setIfInBounds i true) { a with tmps := a.tmps.setIfInBounds d v } w') : wpAnyH P md ops Q S (fuel + 1) listed a w := by
  refine wpAnyH_all hr (by simp) ?_
  intro j hj
  rw [List.mem_singleton] at hj
  subst hj
  unfold wpOp
  simp only [hi, hw, if_true]
  left
  unfold Oper.wp
  rw [hrun]
  refine Calls.mono hc ?_
  intro e w' hR
  obtain ⟨v, rfl, hS, hh⟩ := h e w' hR
  rw [hd]
  exact ⟨hS, hh⟩
end Go.Proofs.YthjnchjfmbblfaaGreatDoor

/- A store within a region that draws its order, by the law that holds what it reads (general). -/
namespace Go.Proofs.YthjnchjfmbblfaaGreatDoor
open Go.RowKit
set_option linter.unusedVariables false

/-- An operation without a value that alone may come up: what it leaves is a world that meets S. -/
theorem storeH {P : Program} {md : Region.Mode} {ops : Array Oper} {Q : Exit → Act → World → Prop} {S : World → Prop} (i : Nat) {oi : Oper} {fuel : Nat} {listed : Array Bool} {a : Act} {w w' : World} (hi : ops[i]? = some oi) (hd : oi.dst = none)
    (hr : Region.ready md ops listed = [i]) (hw : Region.wanted oi (yielded ops a.tmps) = true) (hrun : (execOp a.eval oi).run P w = .ok .skip w') (hS : S w')
    (h : wpAnyH P md ops Q S fuel (listed.setIfInBounds i true) a w') : wpAnyH P md ops Q S (fuel + 1) listed a w := by
  refine wpAnyH_all hr (by simp) ?_
  intro j hj
  rw [List.mem_singleton] at hj
  subst hj
  unfold wpOp
  simp only [hi, hw, if_true]
  left
  unfold Oper.wp
  rw [hrun]
  show S w' ∧ wpAnyH P md ops Q S fuel _ (a.put oi.dst undef) w'
  rw [hd]
  exact ⟨hS, h⟩
end Go.Proofs.YthjnchjfmbblfaaGreatDoor

/- Operations of a region that draws its order, by the law that holds what it reads: one that makes memory; a call that may panic; one that is copied (general). -/
namespace Go.Proofs.YthjnchjfmbblfaaGreatDoor
open Go.RowKit
set_option linter.unusedVariables false

/-- An operation with a value that alone may come up: it may make memory. -/
theorem valueH {P : Program} {md : Region.Mode} {ops : Array Oper} {Q : Exit → Act → World → Prop} {S : World → Prop} (i : Nat) (v : Value) {oi : Oper} {d : Tmp} {fuel : Nat} {listed : Array Bool} {a : Act} {w w' : World} (hi : ops[i]? = some oi) (hd : oi.dst = some d)
    (hr : Region.ready md ops listed = [i]) (hw : Region.wanted oi (yielded ops a.tmps) = true) (hrun : (execOp a.eval oi).run P w = .ok (.value v) w') (hS : S w')
    (h : wpAnyH P md ops Q S fuel (listed.setIfInBounds i true) { a with tmps := a.tmps.setIfInBounds d v } w') : wpAnyH P md ops Q S (fuel + 1) listed a w := by
  refine wpAnyH_all hr (by simp) ?_
  intro j hj
  rw [List.mem_singleton] at hj
  subst hj
  unfold wpOp
  simp only [hi, hw, if_true]
  left
  unfold Oper.wp
  rw [hrun]
  show S w' ∧ wpAnyH P md ops Q S fuel _ (a.put oi.dst v) w'
  rw [hd]
  exact ⟨hS, h⟩
/-- A call that alone may come up, and may panic. -/
theorem callHP {P : Program} {md : Region.Mode} {ops : Array Oper} {Q : Exit → Act → World → Prop} {S : World → Prop} (i : Nat) {oi : Oper} {fuel : Nat} {listed : Array Bool} {a : Act} {w : World} (f : FuncId) (args : Array Value) {R : Ending → World → Prop} (hi : ops[i]? = some oi)
    (hr : Region.ready md ops listed = [i]) (hw : Region.wanted oi (yielded ops a.tmps) = true) (hrun : (execOp a.eval oi).run P w = .ok (.enter f args) w) (hc : Calls P f args w R)
    (h : ∀ e w', R e w' → (∃ v, e = .returned v ∧ S w' ∧ wpAnyH P md ops Q S fuel (listed.setIfInBounds i true) (a.put oi.dst v) w') ∨ (∃ c, e = .panicked c ∧ Q (.panic c) a w')) : wpAnyH P md ops Q S (fuel + 1) listed a w := by
  refine wpAnyH_all hr (by simp) ?_
  intro j hj
  rw [List.mem_singleton] at hj
  subst hj
  unfold wpOp
  simp only [hi, hw, if_true]
  left
  unfold Oper.wp
  rw [hrun]
  refine Calls.mono hc ?_
  intro e w' hR
  rcases h e w' hR with ⟨v, rfl, hS, hh⟩ | ⟨c, rfl, hq⟩
  · exact ⟨hS, hh⟩
  · exact hq
/-- Two operations that only read, in either order; nothing else may come up meanwhile. -/
theorem loads2H {P : Program} {md : Region.Mode} {ops : Array Oper} {Q : Exit → Act → World → Prop} (i j : Nat) (vi vj : Value) {oi oj : Oper} {di dj : Tmp} {fuel : Nat} {listed : Array Bool} {a : Act} {w : World}
    (hi : ops[i]? = some oi) (hj : ops[j]? = some oj) (hdi : oi.dst = some di) (hdj : oj.dst = some dj) (hij : i ≠ j) (hdd : di ≠ dj)
    (hr : Region.ready md ops listed = [i, j]) (hri : Region.ready md ops (listed.setIfInBounds i true) = [j]) (hrj : Region.ready md ops (listed.setIfInBounds j true) = [i])
    (gi : oi.guard = none) (gj : oj.guard = none)
    (r1 : (execOp a.eval oi).run P w = .ok (.value vi) w) (r2 : (execOp ({ a with tmps := a.tmps.setIfInBounds di vi } : Act).eval oj).run P w = .ok (.value vj) w)
    (r3 : (execOp a.eval oj).run P w = .ok (.value vj) w) (r4 : (execOp ({ a with tmps := a.tmps.setIfInBounds dj vj } : Act).eval oi).run P w = .ok (.value vi) w)
    (h : wpAnyH P md ops Q (fun _ => True) fuel ((listed.setIfInBounds i true).setIfInBounds j true) { a with tmps := (a.tmps.setIfInBounds di vi).setIfInBounds dj vj } w) :
    wpAnyH P md ops Q (fun _ => True) (fuel + 2) listed a w := by
  have wi : ∀ t, Region.wanted oi t = true := fun t => by unfold Region.wanted; rw [gi]
  have wj : ∀ t, Region.wanted oj t = true := fun t => by unfold Region.wanted; rw [gj]
  refine wpAnyH_all hr (by simp) ?_
  intro k hk
  rcases List.mem_cons.1 hk with rfl | hk
  · unfold wpOp
    simp only [hi, wi, if_true]
    left
    unfold Oper.wp
    rw [r1]
    show True ∧ wpAnyH P md ops Q _ (fuel + 1) _ (a.put oi.dst vi) w
    rw [hdi]
    exact ⟨trivial, valueH j vj hj hdj hri (wj _) r2 trivial h⟩
  · rw [List.mem_singleton] at hk
    subst hk
    unfold wpOp
    simp only [hj, wj, if_true]
    left
    unfold Oper.wp
    rw [r3]
    show True ∧ wpAnyH P md ops Q _ (fuel + 1) _ (a.put oj.dst vj) w
    rw [hdj]
    refine ⟨trivial, valueH i vi hi hdi hrj (wi _) r4 trivial ?_⟩
    rw [Array.setIfInBounds_comm _ _ hij.symm]
    show wpAnyH P md ops Q _ fuel _ { a with tmps := (a.tmps.setIfInBounds dj vj).setIfInBounds di vi } w
    rw [Array.setIfInBounds_comm _ _ hdd.symm]
    exact h
/-- One operation that only reads, and one that may make memory, in either order; nothing else may come up meanwhile. -/
theorem pairH {P : Program} {md : Region.Mode} {ops : Array Oper} {Q : Exit → Act → World → Prop} {S : World → Prop} (i j : Nat) (vi vj : Value) {oi oj : Oper} {di dj : Tmp} {fuel : Nat} {listed : Array Bool} {a : Act} {w w' : World}
    (hi : ops[i]? = some oi) (hj : ops[j]? = some oj) (hdi : oi.dst = some di) (hdj : oj.dst = some dj) (hij : i ≠ j) (hdd : di ≠ dj)
    (hr : Region.ready md ops listed = [i, j]) (hri : Region.ready md ops (listed.setIfInBounds i true) = [j]) (hrj : Region.ready md ops (listed.setIfInBounds j true) = [i])
    (gi : oi.guard = none) (gj : oj.guard = none)
    (r1 : (execOp a.eval oi).run P w = .ok (.value vi) w) (r2 : (execOp ({ a with tmps := a.tmps.setIfInBounds di vi } : Act).eval oj).run P w = .ok (.value vj) w')
    (r3 : (execOp a.eval oj).run P w = .ok (.value vj) w') (r4 : (execOp ({ a with tmps := a.tmps.setIfInBounds dj vj } : Act).eval oi).run P w' = .ok (.value vi) w') (hS : S w) (hS' : S w')
    (h : wpAnyH P md ops Q S fuel ((listed.setIfInBounds i true).setIfInBounds j true) { a with tmps := (a.tmps.setIfInBounds di vi).setIfInBounds dj vj } w') :
    wpAnyH P md ops Q S (fuel + 2) listed a w := by
  have wi : ∀ t, Region.wanted oi t = true := fun t => by unfold Region.wanted; rw [gi]
  have wj : ∀ t, Region.wanted oj t = true := fun t => by unfold Region.wanted; rw [gj]
  refine wpAnyH_all hr (by simp) ?_
  intro k hk
  rcases List.mem_cons.1 hk with rfl | hk
  · unfold wpOp
    simp only [hi, wi, if_true]
    left
    unfold Oper.wp
    rw [r1]
    show S w ∧ wpAnyH P md ops Q _ (fuel + 1) _ (a.put oi.dst vi) w
    rw [hdi]
    exact ⟨hS, valueH j vj hj hdj hri (wj _) r2 hS' h⟩
  · rw [List.mem_singleton] at hk
    subst hk
    unfold wpOp
    simp only [hj, wj, if_true]
    left
    unfold Oper.wp
    rw [r3]
    show S w' ∧ wpAnyH P md ops Q _ (fuel + 1) _ (a.put oj.dst vj) w'
    rw [hdj]
    refine ⟨hS', valueH i vi hi hdi hrj (wi _) r4 hS' ?_⟩
    rw [Array.setIfInBounds_comm _ _ hij.symm]
    show wpAnyH P md ops Q _ fuel _ { a with tmps := (a.tmps.setIfInBounds dj vj).setIfInBounds di vi } w'
    rw [Array.setIfInBounds_comm _ _ hdd.symm]
    exact h
/-- An append to an own row, that alone may come up. -/
theorem appendH {P : Program} {md : Region.Mode} {ops : Array Oper} {Q : Exit → Act → World → Prop} {S : World → Prop} {fuel : Nat} {listed : Array Bool} (i : Nat) {oi : Oper} {dd : Tmp} {a : Act} {w : World} (hii : ops[i]? = some oi) (hd : oi.dst = some dd) (gi : oi.guard = none)
    (hrd : Region.ready md ops listed = [i]) (s x : Operand) (t : TypeId)
    (ho : oi.op = .call { callee := .builtin .append, args := #[s, x], argTypes := #[t, t] })
    (base : Nat) (e : TypeId) (i1 : TypeInfo) (z : Value) (size bytes : Nat) (ht : P.underlying t = some (.slice e)) (hi : P.info? e = some i1) (hz : i1.zero = some z)
    (hsize : i1.size = size) (hby : i1.bytes = bytes) (hzs : z.cells.size = size) (hsz : 0 < size)
    (v : Value) (n : Nat) (xs : List Value) (hs : a.eval s = v) (hown : w.ownsRow base e size v n xs)
    (y : Option Addr) (m c : Nat) (news : List Value) (hx : a.eval x = .slice y m c) (hr : Rd w size (.slice y m c) m news) (h1 : ∀ u ∈ news, u.oneCell' = true)
    (h63 : n + m ≤ maxLen) (hbytes : (n + m) * bytes ≤ 140737488355328) (hbase : base ≤ w.heap.size) (hm : 0 < m)
    (h : ∀ v' w', w'.ownsRow base e size v' (n + m) (xs ++ news) → w.grownBy w' v.ownBlock → (v'.ownBlock = v.ownBlock ∨ v'.ownBlock = some w.heap.size) →
      S w' ∧ wpAnyH P md ops Q S fuel (listed.setIfInBounds i true) { a with tmps := a.tmps.setIfInBounds dd v' } w') :
    wpAnyH P md ops Q S (fuel + 1) listed a w := by
  obtain ⟨ad, rfl⟩ : ∃ ad, y = some ad := by
    obtain ⟨b, off, e, -⟩ := hr.cells hm
    exact ⟨_, e⟩
  obtain ⟨v', w', hrr, h2, h3, h4, h5⟩ := run_append_own_at (P := P) w base t oi.type e i1 z size bytes ht hi hz hsize hby hzs hsz v n xs hown ad m c news hr.1 (Rd.news hr) h1 h63 hbytes hbase
  obtain ⟨hS, hh⟩ := h v' w' h2 h3 h5
  refine valueH i v' hii hd hrd (by unfold Region.wanted; rw [gi]) (w' := w') ?_ hS hh
  unfold execOp
  simp only [ho, resolve, invoke, builtin, Sem.run_bind, Sem.run_pure, Result.andThen_ok, List.map_toArray, List.map_cons, List.map_nil, hs, hx, hrr]
end Go.Proofs.YthjnchjfmbblfaaGreatDoor

/- A region that draws its order: what is read first must stay only until what needs it has come up (general). -/
namespace Go.Proofs.YthjnchjfmbblfaaGreatDoor
open Go.RowKit
set_option linter.unusedVariables false

section
variable {P : Program} {md : Region.Mode} {ops : Array Oper} {Q : Exit → Act → World → Prop} {S : World → Prop}
/-- Whatever order is picked, and S holds behind every operation that is not in D. -/
def wpAnyD (P : Program) (md : Region.Mode) (ops : Array Oper) (Q : Exit → Act → World → Prop) (S : World → Prop) (D : List Nat) : Nat → Array Bool → Act → World → Prop
  | 0, listed, a, w => Region.ready md ops listed = [] ∧ Q .normal a w
  | fuel + 1, listed, a, w =>
    (Region.ready md ops listed = [] → Q .normal a w) ∧
    ∀ i ∈ Region.ready md ops listed, wpOp P ops Q i (fun a' w' => (i ∉ D → S w') ∧ wpAnyD P md ops Q S D fuel (listed.setIfInBounds i true) a' w') a w
theorem wpAny_of_D {D : List Nat} : ∀ (fuel : Nat) (listed : Array Bool) (a : Act) (w : World), wpAnyD P md ops Q S D fuel listed a w → wpAny P md ops Q fuel listed a w
  | 0, _, _, _, h => h
  | fuel + 1, _, _, _, h => ⟨h.1, fun i hi => wpOp_mono (fun a' w' h' => wpAny_of_D fuel _ a' w' h'.2) (h.2 i hi)⟩
theorem wpAnyD_first {D Di : List Nat} {i : Nat} {oi : Oper} {v : Value} (hi : ops[i]? = some oi) (hsel : ∀ (j : Nat) (o : Oper) cs b, ops[j]? = some o → o.op ≠ .select cs b)
    (hQ : ∀ c a w, Q (.panic c) (a.put oi.dst v) w → Q (.panic c) a w) (hsub : ∀ j ∈ D, j ∈ Di) (hcl : ∀ j ∈ Di, ∀ oj, ops[j]? = some oj → ∃ e ∈ oj.after, Region.binds md e = true ∧ (e.on = i ∨ e.on ∈ Di)) :
    ∀ (fuel : Nat) (listed : Array Bool) (a : Act) (w : World),
      (∀ j oj, ops[j]? = some oj → j ≠ i → listed.getD j true = false → (∀ e ∈ oj.after, Region.binds md e = true → e.on ≠ i) → oi.apart ops oj = true) → (∀ j ∈ Di, listed.getD j true = false) →
      i ∈ Region.ready md ops listed → YieldsIf P ops S oi v a → S w →
      wpAnyD P md ops Q S D fuel (listed.setIfInBounds i true) (a.put oi.dst v) w → wpAnyD P md ops Q S D (fuel + 1) listed a w := by
  have listedOf : ∀ (listed : Array Bool) (x : Nat), listed.getD x true = false → ¬ (listed.getD x false = true) := fun listed x h0 h1 => by
    rcases Nat.lt_or_ge x listed.size with h' | h'
    · simp [h'] at h0 h1; rw [h0] at h1; cases h1
    · simp [Array.getElem?_eq_none h'] at h1
  intro fuel
  induction fuel with
  | zero =>
    intro listed a w _ hun hr hy hS H
    refine ⟨fun h => (by rw [h] at hr; cases hr), fun j hj => ?_⟩
    by_cases hji : j = i
    · subst hji; exact hy.wpOp hi hS ⟨fun _ => hS, H⟩
    · have := ready_mono hj hji
      rw [H.1] at this
      cases this
  | succ fuel ih =>
    intro listed a w hfree hun hr hy hS H
    refine ⟨fun h => (by rw [h] at hr; cases hr), fun j hj => ?_⟩
    by_cases hji : j = i
    · subst hji; exact hy.wpOp hi hS ⟨fun _ => hS, H⟩
    · have h1 := H.2 j (ready_mono hj hji)
      obtain ⟨hjun, oj, hoj, hall⟩ := mem_ready.1 hj
      have hnot : ∀ e ∈ oj.after, Region.binds md e = true → e.on ≠ i := fun e he hb heq => by
        have h1 := hall e he hb
        rw [heq] at h1
        exact listedOf listed i (mem_ready.1 hr).1 h1
      have hjD : j ∉ Di := fun hm => by
        obtain ⟨e, he, hb, hor⟩ := hcl j hm oj hoj
        rcases hor with h2 | h2
        · exact hnot e he hb h2
        · exact listedOf listed _ (hun _ h2) (hall e he hb)
      have h2 := wpOp_putIf hoj (hfree j oj hoj hji hjun hnot) (fun cs b => hsel i oi cs b hi) (fun cs b => hsel j oj cs b hoj) hQ hy h1
      have hfree' : ∀ k ok, ops[k]? = some ok → k ≠ i → (listed.setIfInBounds j true).getD k true = false →
          (∀ e ∈ ok.after, Region.binds md e = true → e.on ≠ i) → oi.apart ops ok = true := fun k ok hk hki hun hno => by
        refine hfree k ok hk hki ?_ hno
        by_cases hjk : j = k
        · subst hjk; exact hjun
        · rw [getD_set_ne true hjk] at hun; exact hun
      have hun' : ∀ k ∈ Di, (listed.setIfInBounds j true).getD k true = false := fun k hk => by
        have hne : j ≠ k := fun e => hjD (by rw [e]; exact hk)
        rw [getD_set_ne true hne]
        exact hun k hk
      refine wpOp_mono (fun a' w' h3 => ⟨h3.2.1, ih (listed.setIfInBounds j true) a' w' hfree' hun' (ready_mono hr (Ne.symm hji)) h3.1 (h3.2.1 (fun hm => hjD (hsub j hm))) ?_⟩) h2
      rw [Array.setIfInBounds_comm _ _ hji]
      exact h3.2.2
/-- No operation of the list may come up before the operation i. -/
def closedB (md : Region.Mode) (ops : Array Oper) (i : Nat) (Di : List Nat) : Bool :=
  Di.all fun j => match ops[j]? with
    | none => true
    | some oj => oj.after.any fun e => Region.binds md e && (e.on == i || Di.contains e.on)
theorem closedB_spec {i : Nat} {Di : List Nat} (h : closedB md ops i Di = true) : ∀ j ∈ Di, ∀ oj, ops[j]? = some oj → ∃ e ∈ oj.after, Region.binds md e = true ∧ (e.on = i ∨ e.on ∈ Di) := by
  intro j hj oj hoj
  have := List.all_eq_true.1 h j hj
  rw [hoj] at this
  simp only [Array.any_eq_true] at this
  obtain ⟨k, hk, he⟩ := this
  simp only [Bool.and_eq_true, Bool.or_eq_true, beq_iff_eq, List.contains_eq_mem, decide_eq_true_eq] at he
  exact ⟨oj.after[k], Array.getElem_mem hk, he.1, he.2⟩
/-- The beginning. -/
theorem wp_region_D {D : List Nat} {id : Nat} {a : Act} {w : World} (hm : P.follows .mixedOrders = true) (hS : S w.drew)
    (h : S w.drew → wpAnyD P .any ops Q S D ops.size (Array.replicate ops.size false) a w.drew) : (Code.region id ops true).wp P Q a w :=
  wp_region_any hm (wpAny_of_D _ _ _ _ (h hS))
/-- An operation that yields is taken first. -/
theorem takeD {D : List Nat} (i : Nat) (Di : List Nat) {oi : Oper} (v : Value) {d : Tmp} {fuel : Nat} {listed : Array Bool} {a : Act} {w : World} (hi : ops[i]? = some oi) (hd : oi.dst = some d)
    (hs : Region.noSelect ops = true) (hf : Region.free md ops listed i = true) (hr : (Region.ready md ops listed).contains i = true) (hcl : closedB md ops i Di = true) (hsub : ∀ j ∈ D, j ∈ Di) (hun : ∀ j ∈ Di, listed.getD j true = false)
    (hQ : ∀ c a w, Q (.panic c) (a.put oi.dst v) w → Q (.panic c) a w) (hw : Region.wanted oi (yielded ops a.tmps) = true) (hy : ∀ w, S w → (execOp a.eval oi).run P w = .ok (.value v) w) (hS : S w)
    (h : wpAnyD P md ops Q S D fuel (listed.setIfInBounds i true) { a with tmps := a.tmps.setIfInBounds d v } w) : wpAnyD P md ops Q S D (fuel + 1) listed a w :=
  wpAnyD_first hi (Region.noSelect_spec hs) hQ hsub (closedB_spec hcl) fuel listed a w (Region.free_spec hi hf) hun (by simpa using hr) (Or.inl ⟨hw, hy⟩) hS (by rw [hd]; exact h)
theorem wpAnyD_all {D : List Nat} {rs : List Nat} {fuel : Nat} {listed : Array Bool} {a : Act} {w : World} (hr : Region.ready md ops listed = rs) (hne : rs ≠ [])
    (h : ∀ i ∈ rs, wpOp P ops Q i (fun a' w' => (i ∉ D → S w') ∧ wpAnyD P md ops Q S D fuel (listed.setIfInBounds i true) a' w') a w) : wpAnyD P md ops Q S D (fuel + 1) listed a w :=
  ⟨fun h0 => absurd (hr ▸ h0) hne, hr ▸ h⟩
theorem wpAnyD_done {D : List Nat} {listed : Array Bool} {a : Act} {w : World} (hr : Region.ready md ops listed = []) (h : Q .normal a w) :
    ∀ fuel, wpAnyD P md ops Q S D fuel listed a w
  | 0 => ⟨hr, h⟩
  | _ + 1 => ⟨fun _ => h, by rw [hr]; simp⟩
/-- An operation with a value that alone may come up. -/
theorem valueD {D : List Nat} (i : Nat) (v : Value) {oi : Oper} {d : Tmp} {fuel : Nat} {listed : Array Bool} {a : Act} {w w' : World} (hi : ops[i]? = some oi) (hd : oi.dst = some d)
    (hr : Region.ready md ops listed = [i]) (hw : Region.wanted oi (yielded ops a.tmps) = true) (hrun : (execOp a.eval oi).run P w = .ok (.value v) w') (hS : i ∉ D → S w')
    (h : wpAnyD P md ops Q S D fuel (listed.setIfInBounds i true) { a with tmps := a.tmps.setIfInBounds d v } w') : wpAnyD P md ops Q S D (fuel + 1) listed a w := by
  refine wpAnyD_all hr (by simp) ?_
  intro j hj
  rw [List.mem_singleton] at hj
  subst hj
  unfold wpOp
  simp only [hi, hw, if_true]
  left
  unfold Oper.wp
  rw [hrun]
  show (j ∉ D → S w') ∧ wpAnyD P md ops Q S D fuel _ (a.put oi.dst v) w'
  rw [hd]
  exact ⟨hS, h⟩
/-- An operation without a value. -/
theorem storeD {D : List Nat} (i : Nat) {oi : Oper} {fuel : Nat} {listed : Array Bool} {a : Act} {w w' : World} (hi : ops[i]? = some oi) (hd : oi.dst = none)
    (hr : Region.ready md ops listed = [i]) (hw : Region.wanted oi (yielded ops a.tmps) = true) (hrun : (execOp a.eval oi).run P w = .ok .skip w') (hS : i ∉ D → S w')
    (h : wpAnyD P md ops Q S D fuel (listed.setIfInBounds i true) a w') : wpAnyD P md ops Q S D (fuel + 1) listed a w := by
  refine wpAnyD_all hr (by simp) ?_
  intro j hj
  rw [List.mem_singleton] at hj
  subst hj
  unfold wpOp
  simp only [hi, hw, if_true]
  left
  unfold Oper.wp
  rw [hrun]
  show (j ∉ D → S w') ∧ wpAnyD P md ops Q S D fuel _ (a.put oi.dst undef) w'
  rw [hd]
  exact ⟨hS, h⟩
/-- A call that may panic. -/
theorem callD {D : List Nat} (i : Nat) {oi : Oper} {fuel : Nat} {listed : Array Bool} {a : Act} {w : World} (f : FuncId) (args : Array Value) {R : Ending → World → Prop} (hi : ops[i]? = some oi)
    (hr : Region.ready md ops listed = [i]) (hw : Region.wanted oi (yielded ops a.tmps) = true) (hrun : (execOp a.eval oi).run P w = .ok (.enter f args) w) (hc : Calls P f args w R)
    (h : ∀ e w', R e w' → (∃ v, e = .returned v ∧ (i ∉ D → S w') ∧ wpAnyD P md ops Q S D fuel (listed.setIfInBounds i true) (a.put oi.dst v) w') ∨ (∃ c, e = .panicked c ∧ Q (.panic c) a w')) : wpAnyD P md ops Q S D (fuel + 1) listed a w := by
  refine wpAnyD_all hr (by simp) ?_
  intro j hj
  rw [List.mem_singleton] at hj
  subst hj
  unfold wpOp
  simp only [hi, hw, if_true]
  left
  unfold Oper.wp
  rw [hrun]
  refine Calls.mono hc ?_
  intro e w' hR
  rcases h e w' hR with ⟨v, rfl, hS, hh⟩ | ⟨c, rfl, hq⟩
  · exact ⟨hS, hh⟩
  · exact hq
/-- An append to an own row. -/
theorem appendD {D : List Nat} {fuel : Nat} {listed : Array Bool} (i : Nat) {oi : Oper} {dd : Tmp} {a : Act} {w : World} (hii : ops[i]? = some oi) (hd : oi.dst = some dd) (gi : oi.guard = none)
    (hrd : Region.ready md ops listed = [i]) (s x : Operand) (t : TypeId)
    (ho : oi.op = .call { callee := .builtin .append, args := #[s, x], argTypes := #[t, t] })
    (base : Nat) (e : TypeId) (i1 : TypeInfo) (z : Value) (size bytes : Nat) (ht : P.underlying t = some (.slice e)) (hi : P.info? e = some i1) (hz : i1.zero = some z)
    (hsize : i1.size = size) (hby : i1.bytes = bytes) (hzs : z.cells.size = size) (hsz : 0 < size)
    (v : Value) (n : Nat) (xs : List Value) (hs : a.eval s = v) (hown : w.ownsRow base e size v n xs)
    (y : Option Addr) (m c : Nat) (news : List Value) (hx : a.eval x = .slice y m c) (hr : Rd w size (.slice y m c) m news) (h1 : ∀ u ∈ news, u.oneCell' = true)
    (h63 : n + m ≤ maxLen) (hbytes : (n + m) * bytes ≤ 140737488355328) (hbase : base ≤ w.heap.size) (hm : 0 < m)
    (h : ∀ v' w', w'.ownsRow base e size v' (n + m) (xs ++ news) → w.grownBy w' v.ownBlock → (v'.ownBlock = v.ownBlock ∨ v'.ownBlock = some w.heap.size) →
      (i ∉ D → S w') ∧ wpAnyD P md ops Q S D fuel (listed.setIfInBounds i true) { a with tmps := a.tmps.setIfInBounds dd v' } w') :
    wpAnyD P md ops Q S D (fuel + 1) listed a w := by
  obtain ⟨ad, rfl⟩ : ∃ ad, y = some ad := by
    obtain ⟨b, off, e, -⟩ := hr.cells hm
    exact ⟨_, e⟩
  obtain ⟨v', w', hrr, h2, h3, h4, h5⟩ := run_append_own_at (P := P) w base t oi.type e i1 z size bytes ht hi hz hsize hby hzs hsz v n xs hown ad m c news hr.1 (Rd.news hr) h1 h63 hbytes hbase
  obtain ⟨hS, hh⟩ := h v' w' h2 h3 h5
  refine valueD i v' hii hd hrd (by unfold Region.wanted; rw [gi]) (w' := w') ?_ hS hh
  unfold execOp
  simp only [ho, resolve, invoke, builtin, Sem.run_bind, Sem.run_pure, Result.andThen_ok, List.map_toArray, List.map_cons, List.map_nil, hs, hx, hrr]
end
end Go.Proofs.YthjnchjfmbblfaaGreatDoor
