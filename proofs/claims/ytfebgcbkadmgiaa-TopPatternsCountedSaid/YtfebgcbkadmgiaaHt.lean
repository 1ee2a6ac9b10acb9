/- Operations of a region that draws its order, by the law that holds what it reads: one that makes memory; a call that may panic; one that is copied (general). -/
import Derived.Test.YtfebgcbkadmgiaaHs
import Derived.Test.YtfebgcbkadmgiaaMb
namespace Go.Proofs.Ytfebgcbkadmgiaa
open Go.RowKit
set_option linter.unusedVariables false

/-- An operation with a value that alone may come up: it may make memory. -/
theorem valueH {P : Program} {md : Region.Mode} {ops : Array Oper} {Q : Exit → Act → World → Prop} {S : World → Prop} (i : Nat) (v : Value) {oi : Oper} {d : Tmp} {fuel : Nat} {listed : Array Bool} {a : Act} {w w' : World} (hi : ops[i]? = some oi) (hd : oi.dst = some d)
    (hr : Region.ready md ops listed = [i]) (hw : Region.wanted oi (yielded ops a.tmps) = true) (hrun : (execOp a.eval oi).run P w = .ok (.value v) w') (hS : S w')
    (h : wpAnyH P md ops Q S fuel (listed.setIfInBounds i true) { a with tmps := a.tmps.setIfInBounds d v } w') : wpAnyH P md ops Q S (fuel + 1) listed a w := by
  refine wpAnyH_all hr (by simp) ?_
  intro j hj
  rw [List.mem_singleton] at hj
  subst hj
  unfold wpOp
  simp only [hi, hw, if_true]
  left
  unfold Oper.wp
  rw [hrun]
  show S w' ∧ wpAnyH P md ops Q S fuel _ (a.put oi.dst v) w'
  rw [hd]
  exact ⟨hS, h⟩
/-- A call that alone may come up, and may panic. -/
theorem callHP {P : Program} {md : Region.Mode} {ops : Array Oper} {Q : Exit → Act → World → Prop} {S : World → Prop} (i : Nat) {oi : Oper} {fuel : Nat} {listed : Array Bool} {a : Act} {w : World} (f : FuncId) (args : Array Value) {R : Ending → World → Prop} (hi : ops[i]? = some oi)
    (hr : Region.ready md ops listed = [i]) (hw : Region.wanted oi (yielded ops a.tmps) = true) (hrun : (execOp a.eval oi).run P w = .ok (.enter f args) w) (hc : Calls P f args w R)
    (h : ∀ e w', R e w' → (∃ v, e = .returned v ∧ S w' ∧ wpAnyH P md ops Q S fuel (listed.setIfInBounds i true) (a.put oi.dst v) w') ∨ (∃ c, e = .panicked c ∧ Q (.panic c) a w')) : wpAnyH P md ops Q S (fuel + 1) listed a w := by
  refine wpAnyH_all hr (by simp) ?_
  intro j hj
  rw [List.mem_singleton] at hj
  subst hj
  unfold wpOp
  simp only [hi, hw, if_true]
  left
  unfold Oper.wp
  rw [hrun]
  refine Calls.mono hc ?_
  intro e w' hR
  rcases h e w' hR with ⟨v, rfl, hS, hh⟩ | ⟨c, rfl, hq⟩
  · exact ⟨hS, hh⟩
  · exact hq
/-- Two operations that only read, in either order; nothing else may come up meanwhile. -/
theorem loads2H {P : Program} {md : Region.Mode} {ops : Array Oper} {Q : Exit → Act → World → Prop} (i j : Nat) (vi vj : Value) {oi oj : Oper} {di dj : Tmp} {fuel : Nat} {listed : Array Bool} {a : Act} {w : World}
    (hi : ops[i]? = some oi) (hj : ops[j]? = some oj) (hdi : oi.dst = some di) (hdj : oj.dst = some dj) (hij : i ≠ j) (hdd : di ≠ dj)
    (hr : Region.ready md ops listed = [i, j]) (hri : Region.ready md ops (listed.setIfInBounds i true) = [j]) (hrj : Region.ready md ops (listed.setIfInBounds j true) = [i])
    (gi : oi.guard = none) (gj : oj.guard = none)
    (r1 : (execOp a.eval oi).run P w = .ok (.value vi) w) (r2 : (execOp ({ a with tmps := a.tmps.setIfInBounds di vi } : Act).eval oj).run P w = .ok (.value vj) w)
    (r3 : (execOp a.eval oj).run P w = .ok (.value vj) w) (r4 : (execOp ({ a with tmps := a.tmps.setIfInBounds dj vj } : Act).eval oi).run P w = .ok (.value vi) w)
    (h : wpAnyH P md ops Q (fun _ => True) fuel ((listed.setIfInBounds i true).setIfInBounds j true) { a with tmps := (a.tmps.setIfInBounds di vi).setIfInBounds dj vj } w) :
    wpAnyH P md ops Q (fun _ => True) (fuel + 2) listed a w := by
  have wi : ∀ t, Region.wanted oi t = true := fun t => by unfold Region.wanted; rw [gi]
  have wj : ∀ t, Region.wanted oj t = true := fun t => by unfold Region.wanted; rw [gj]
  refine wpAnyH_all hr (by simp) ?_
  intro k hk
  rcases List.mem_cons.1 hk with rfl | hk
  · unfold wpOp
    simp only [hi, wi, if_true]
    left
    unfold Oper.wp
    rw [r1]
    show True ∧ wpAnyH P md ops Q _ (fuel + 1) _ (a.put oi.dst vi) w
    rw [hdi]
    exact ⟨trivial, valueH j vj hj hdj hri (wj _) r2 trivial h⟩
  · rw [List.mem_singleton] at hk
    subst hk
    unfold wpOp
    simp only [hj, wj, if_true]
    left
    unfold Oper.wp
    rw [r3]
    show True ∧ wpAnyH P md ops Q _ (fuel + 1) _ (a.put oj.dst vj) w
    rw [hdj]
    refine ⟨trivial, valueH i vi hi hdi hrj (wi _) r4 trivial ?_⟩
    rw [Array.setIfInBounds_comm _ _ hij.symm]
    show wpAnyH P md ops Q _ fuel _ { a with tmps := (a.tmps.setIfInBounds dj vj).setIfInBounds di vi } w
    rw [Array.setIfInBounds_comm _ _ hdd.symm]
    exact h
/-- One operation that only reads, and one that may make memory, in either order; nothing else may come up meanwhile. -/
theorem pairH {P : Program} {md : Region.Mode} {ops : Array Oper} {Q : Exit → Act → World → Prop} {S : World → Prop} (i j : Nat) (vi vj : Value) {oi oj : Oper} {di dj : Tmp} {fuel : Nat} {listed : Array Bool} {a : Act} {w w' : World}
    (hi : ops[i]? = some oi) (hj : ops[j]? = some oj) (hdi : oi.dst = some di) (hdj : oj.dst = some dj) (hij : i ≠ j) (hdd : di ≠ dj)
    (hr : Region.ready md ops listed = [i, j]) (hri : Region.ready md ops (listed.setIfInBounds i true) = [j]) (hrj : Region.ready md ops (listed.setIfInBounds j true) = [i])
    (gi : oi.guard = none) (gj : oj.guard = none)
    (r1 : (execOp a.eval oi).run P w = .ok (.value vi) w) (r2 : (execOp ({ a with tmps := a.tmps.setIfInBounds di vi } : Act).eval oj).run P w = .ok (.value vj) w')
    (r3 : (execOp a.eval oj).run P w = .ok (.value vj) w') (r4 : (execOp ({ a with tmps := a.tmps.setIfInBounds dj vj } : Act).eval oi).run P w' = .ok (.value vi) w') (hS : S w) (hS' : S w')
    (h : wpAnyH P md ops Q S fuel ((listed.setIfInBounds i true).setIfInBounds j true) { a with tmps := (a.tmps.setIfInBounds di vi).setIfInBounds dj vj } w') :
    wpAnyH P md ops Q S (fuel + 2) listed a w := by
  have wi : ∀ t, Region.wanted oi t = true := fun t => by unfold Region.wanted; rw [gi]
  have wj : ∀ t, Region.wanted oj t = true := fun t => by unfold Region.wanted; rw [gj]
  refine wpAnyH_all hr (by simp) ?_
  intro k hk
  rcases List.mem_cons.1 hk with rfl | hk
  · unfold wpOp
    simp only [hi, wi, if_true]
    left
    unfold Oper.wp
    rw [r1]
    show S w ∧ wpAnyH P md ops Q _ (fuel + 1) _ (a.put oi.dst vi) w
    rw [hdi]
    exact ⟨hS, valueH j vj hj hdj hri (wj _) r2 hS' h⟩
  · rw [List.mem_singleton] at hk
    subst hk
    unfold wpOp
    simp only [hj, wj, if_true]
    left
    unfold Oper.wp
    rw [r3]
    show S w' ∧ wpAnyH P md ops Q _ (fuel + 1) _ (a.put oj.dst vj) w'
    rw [hdj]
    refine ⟨hS', valueH i vi hi hdi hrj (wi _) r4 hS' ?_⟩
    rw [Array.setIfInBounds_comm _ _ hij.symm]
    show wpAnyH P md ops Q _ fuel _ { a with tmps := (a.tmps.setIfInBounds dj vj).setIfInBounds di vi } w'
    rw [Array.setIfInBounds_comm _ _ hdd.symm]
    exact h
/-- An append to an own row, that alone may come up. -/
theorem appendH {P : Program} {md : Region.Mode} {ops : Array Oper} {Q : Exit → Act → World → Prop} {S : World → Prop} {fuel : Nat} {listed : Array Bool} (i : Nat) {oi : Oper} {dd : Tmp} {a : Act} {w : World} (hii : ops[i]? = some oi) (hd : oi.dst = some dd) (gi : oi.guard = none)
    (hrd : Region.ready md ops listed = [i]) (s x : Operand) (t : TypeId)
    (ho : oi.op = .call { callee := .builtin .append, args := #[s, x], argTypes := #[t, t] })
    (base : Nat) (e : TypeId) (i1 : TypeInfo) (z : Value) (size bytes : Nat) (ht : P.underlying t = some (.slice e)) (hi : P.info? e = some i1) (hz : i1.zero = some z)
    (hsize : i1.size = size) (hby : i1.bytes = bytes) (hzs : z.cells.size = size) (hsz : 0 < size)
    (v : Value) (n : Nat) (xs : List Value) (hs : a.eval s = v) (hown : w.ownsRow base e size v n xs)
    (y : Option Addr) (m c : Nat) (news : List Value) (hx : a.eval x = .slice y m c) (hr : Rd w size (.slice y m c) m news) (h1 : ∀ u ∈ news, u.oneCell' = true)
    (h63 : n + m ≤ maxLen) (hbytes : (n + m) * bytes ≤ 140737488355328) (hbase : base ≤ w.heap.size) (hm : 0 < m)
    (h : ∀ v' w', w'.ownsRow base e size v' (n + m) (xs ++ news) → w.grownBy w' v.ownBlock → (v'.ownBlock = v.ownBlock ∨ v'.ownBlock = some w.heap.size) →
      S w' ∧ wpAnyH P md ops Q S fuel (listed.setIfInBounds i true) { a with tmps := a.tmps.setIfInBounds dd v' } w') :
    wpAnyH P md ops Q S (fuel + 1) listed a w := by
  obtain ⟨ad, rfl⟩ : ∃ ad, y = some ad := by
    obtain ⟨b, off, e, -⟩ := hr.cells hm
    exact ⟨_, e⟩
  obtain ⟨v', w', hrr, h2, h3, h4, h5⟩ := run_append_own_at (P := P) w base t oi.type e i1 z size bytes ht hi hz hsize hby hzs hsz v n xs hown ad m c news hr.1 (Rd.news hr) h1 h63 hbytes hbase
  obtain ⟨hS, hh⟩ := h v' w' h2 h3 h5
  refine valueH i v' hii hd hrd (by unfold Region.wanted; rw [gi]) (w' := w') ?_ hS hh
  unfold execOp
  simp only [ho, resolve, invoke, builtin, Sem.run_bind, Sem.run_pure, Result.andThen_ok, List.map_toArray, List.map_cons, List.map_nil, hs, hx, hrr]
end Go.Proofs.Ytfebgcbkadmgiaa
