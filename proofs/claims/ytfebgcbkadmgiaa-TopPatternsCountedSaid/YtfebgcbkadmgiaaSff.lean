/- Layer 32: Sort: what its two first lists hold (plain). -/
import Derived.Test.YtfebgcbkadmgiaaSfe
import Derived.Test.YtfebgcbkadmgiaaB8
import Derived.Laws.AppendOwnNone
namespace Go.Proofs.Ytfebgcbkadmgiaa
open Go.RowKit
set_option linter.unusedVariables false
set_option linter.unusedSimpArgs false

/-- Numbers as values. -/
def iv (l : List Int) : List Value := l.map (Value.int .i64)
theorem iv_len (l : List Int) : (iv l).length = l.length := by simp [iv]
theorem iv_get (l : List Int) (i : Nat) (h : i < l.length) : (iv l)[i]? = some (.int .i64 (l.getD i 0)) := by simp [iv, h]
theorem iv_set (l : List Int) (i : Nat) (x : Int) : (iv l).set i (.int .i64 x) = iv (l.set i x) := by simp [iv, List.map_set]
theorem nv_set (l : List Nat) (i : Nat) (x : Nat) : (nv l).set i (.int .i64 (x : Int)) = nv (l.set i x) := by simp [nv, List.map_set]
def plc (n k : Nat) : List Nat := List.range k ++ List.replicate (n + 1 - k) 0
theorem plc_len {n k : Nat} (h : k ≤ n + 1) : (plc n k).length = n + 1 := by simp [plc]; omega
theorem plc_set {n k : Nat} (h : k ≤ n) : (plc n k).set k k = plc n (k + 1) := by
  unfold plc
  rw [List.set_append_right _ _ (by simp), List.length_range, Nat.sub_self, show n + 1 - k = (n + 1 - (k + 1)) + 1 by omega, List.replicate_succ, List.set_cons_zero, List.range_succ, List.append_assoc]
  rfl
theorem plc_all (n : Nat) : plc n (n + 1) = List.range (n + 1) := by simp [plc]
def rk1 (b : List Int) (k : Nat) : List Int := (b.take k).map (· + 1) ++ List.replicate (b.length + 1 - k) 0
theorem rk1_len {b : List Int} {k : Nat} (h : k ≤ b.length) : (rk1 b k).length = b.length + 1 := by simp [rk1]; omega
theorem rk1_set {b : List Int} {k : Nat} (h : k < b.length) : (rk1 b k).set k (b.getD k 0 + 1) = rk1 b (k + 1) := by
  unfold rk1
  have e : ((b.take k).map (· + 1)).length = k := by simp; omega
  rw [List.set_append_right _ _ (by omega), e, Nat.sub_self, show b.length + 1 - k = (b.length + 1 - (k + 1)) + 1 by omega, List.replicate_succ, List.set_cons_zero, List.take_add_one, List.getElem?_eq_getElem h, List.map_append, List.append_assoc]
  simp [List.getD, h]
theorem rk1_ok {b : List Int} (hb : Bytes b) : Suf.RkOk b 1 (rk1 b b.length) := by
  refine Suf.rk_first (fun x hx => (hb x hx).1) (rk1_len (Nat.le_refl _)) ?_ fun i hi => ?_
  · unfold rk1
    rw [List.getD_eq_getElem?_getD, List.getElem?_append_right (by simp)]
    simp
  · unfold rk1
    rw [List.getD_eq_getElem?_getD, List.getElem?_append_left (by simpa using hi)]
    simp [List.getD, hi]
theorem zeros_rk1 (b : List Int) : List.replicate (b.length + 1) (0 : Int) = rk1 b 0 := by simp [rk1]
theorem zeros_plc (n : Nat) : List.replicate (n + 1) (0 : Nat) = plc n 0 := by simp [plc]
/-- The next rank, place by place. -/
def NxOk (b : List Int) (L : Nat) (o : List Nat) (i : Nat) (nx : List Int) : Prop := nx.length = b.length + 1 ∧ ∀ k, k < i → nx.getD (o.getD k 0) 0 = Suf.cls b L o k
theorem NxOk.start {b : List Int} {L : Nat} {o : List Nat} : NxOk b L o 1 (List.replicate (b.length + 1) 0) := by
  refine ⟨by simp, fun k hk => ?_⟩
  obtain rfl : k = 0 := by omega
  unfold Suf.cls
  rw [List.getD_eq_getElem?_getD, List.getElem?_replicate]
  split <;> rfl
theorem getD_set (l : List Int) (i j : Nat) (x : Int) (hi : i < l.length) : (l.set i x).getD j 0 = if i = j then x else l.getD j 0 := by
  rw [List.getD_eq_getElem?_getD, List.getElem?_set, List.getD_eq_getElem?_getD]
  by_cases e : i = j
  · subst e; simp [hi]
  · simp [e]
theorem NxOk.step {b : List Int} {L : Nat} {o : List Nat} {i : Nat} {nx : List Int} (h : NxOk b L o (i + 1) nx) (ho : o.Perm (List.range (b.length + 1))) (hi : i + 1 < o.length) {y : Int}
    (hy : y = Suf.cls b L o (i + 1)) : NxOk b L o (i + 2) (nx.set (o.getD (i + 1) 0) y) := by
  obtain ⟨h1, h2⟩ := h
  have hnd : o.Nodup := ho.nodup_iff.2 List.nodup_range
  have hol : o.length = b.length + 1 := by rw [ho.length_eq]; simp
  have hle : o.getD (i + 1) 0 < nx.length := by
    have h3 : o.getD (i + 1) 0 ∈ o := by rw [List.getD_eq_getElem?_getD, List.getElem?_eq_getElem hi]; exact List.getElem_mem hi
    have h4 := List.mem_range.1 (ho.mem_iff.1 h3)
    omega
  refine ⟨by simpa using h1, fun k hk => ?_⟩
  rw [getD_set _ _ _ _ hle]
  by_cases e : k = i + 1
  · subst e; rw [if_pos rfl, hy]
  · rw [if_neg, h2 k (by omega)]
    intro h5
    rw [List.getD_eq_getElem?_getD, List.getElem?_eq_getElem hi, List.getD_eq_getElem?_getD, List.getElem?_eq_getElem (by omega)] at h5
    exact List.pairwise_iff_getElem.1 hnd k (i + 1) (by omega) hi (by omega) h5.symm
theorem cls_step (b : List Int) (L : Nat) (o : List Nat) (rank : List Int) (hR : Suf.RkOk b L rank) (i : Nat) (ho : o.Perm (List.range (b.length + 1))) (hi : i + 1 < o.length) :
    Suf.cls b (L + L) o (i + 1) = if Suf.cmpR b L rank (o.getD i 0) (o.getD (i + 1) 0) = 0 then Suf.cls b (L + L) o i else Suf.cls b (L + L) o i + 1 := by
  have hm : ∀ k, k < o.length → o.getD k 0 ≤ b.length := fun k hk => by
    have h3 : o.getD k 0 ∈ o := by rw [List.getD_eq_getElem?_getD, List.getElem?_eq_getElem hk]; exact List.getElem_mem hk
    have h4 := List.mem_range.1 (ho.mem_iff.1 h3)
    omega
  have h := Suf.cmpR_zero hR (hm i (by omega)) (hm (i + 1) hi)
  by_cases e : Suf.cmpR b L rank (o.getD i 0) (o.getD (i + 1) 0) = 0
  · rw [if_pos e]
    show _ + _ = _
    rw [if_pos (h.1 e), Int.add_zero]
  · rw [if_neg e]
    show _ + _ = _
    rw [if_neg (fun k => e (h.2 k))]
theorem NxOk.done {b : List Int} {L : Nat} {o : List Nat} {nx : List Int} (h : NxOk b L o (b.length + 1) nx) (hA : Suf.Asc b L o) (ho : o.Perm (List.range (b.length + 1))) (hL : 0 < L) : Suf.RkOk b L nx :=
  Suf.rk_next hA ho h.1 hL fun k hk => h.2 k (by rw [ho.length_eq] at hk; simpa using hk)
theorem ext_grow (w : World) (q : Nat) (os : Array Obj) : Ext w (Go.Sort.grow (w.drewN q) os) := by
  show Below _ _ _
  refine ⟨rfl, rfl, rfl, by rw [Go.Sort.size_grow]; exact Nat.le_add_right _ _, fun k hk => ?_⟩
  exact Go.Sort.heap_grow_old (w.drewN q) os hk
theorem made_int (n : Nat) : (madeCells (Value.int .i64 0).cells n).toList = iv (List.replicate n 0) := by
  have : madeCells (Value.int .i64 0).cells n = (List.replicate n (Value.int .i64 0)).toArray := by
    have e : (Value.int .i64 0).cells = #[.int .i64 0] := by simp [Value.cells]
    apply Array.ext
    · simp [madeCells]
    · intro i h1 h2
      simp [madeCells, e, Nat.mod_one]
  rw [this]
  simp [iv]
theorem blk_made (w : World) (n : Nat) (t : TypeId) : Blk (w.alloc (.cells (madeCells (Value.int .i64 0).cells n) t)) w.heap.size t (iv (List.replicate n 0)) := by
  have := Blk.new w (madeCells (Value.int .i64 0).cells n).toList t
  rw [Array.toArray_toList, made_int] at this
  exact this
theorem nv_zeros (n : Nat) : nv (List.replicate n 0) = iv (List.replicate n 0) := by simp [nv, iv]
theorem intinfo : (Try.prog.info? 3).map (fun i => (i.zero, i.size, i.bytes)) = some (some (.int .i64 0), 1, 8) := by kernel_rfl
theorem mk_ints (m : Int) (n : Nat) (hm : m = n) (hn : n ≤ 1000000) (W : World) : (Instr.makeSlice 23 (.int .i64 m) (.int .i64 m)).run Try.prog W = .ok (.slice (some ⟨W.heap.size, 0, none⟩) n n) (W.alloc (.cells (madeCells (Value.int .i64 0).cells n) 3)) := by
  obtain ⟨i1, hi, hz0, hz1, hz2⟩ := info_parts intinfo
  have := run_make (P := Try.prog) W 23 3 i1 (.int .i64 0) Try.underlying23 hi hz0 .i64 .i64 m m (by omega) (Int.le_refl _) (by rw [hz2]; omega) (by omega)
  rw [hz1, Nat.mul_one, show m.toNat = n by omega] at this
  exact this
theorem wpOp_value {P : Program} {ops : Array Oper} {Q : Exit → Act → World → Prop} {K : Act → World → Prop} (i : Nat) {oi : Oper} (v : Value) {d : Tmp} {a : Act} {w w' : World} (hi : ops[i]? = some oi) (hd : oi.dst = some d)
    (hw : Region.wanted oi (yielded ops a.tmps) = true) (hy : (execOp a.eval oi).run P w = .ok (.value v) w') (h : K { a with tmps := a.tmps.setIfInBounds d v } w') : wpOp P ops Q i K a w := by
  unfold wpOp
  simp only [hi, hw, if_true]
  left
  unfold Oper.wp
  rw [hy]
  show K (a.put oi.dst v) w'
  rw [hd]
  exact h
/-- What stands in memory at the head of a round of Sort. -/
structure SortS (w : World) (b : List Int) (nc pb rc L lc rb : Nat) (rank : List Int) (o : List Nat) (W : World) : Prop where
  hn : Blk W nc 3 [.int .i64 (b.length : Int)]
  hp : Blk W pb 3 (nv o)
  hl : Blk W lc 3 [.int .i64 (L : Int)]
  hc : Blk W rc 23 [.slice (some ⟨rb, 0, none⟩) (b.length + 1) (b.length + 1)]
  hr : Blk W rb 3 (iv rank)
  d1 : nc ≠ pb
  d2 : rc ≠ pb
  d3 : lc ≠ pb
  d4 : rb ≠ pb
  d5 : nc ≠ rc
  d6 : rb ≠ rc
  d7 : lc ≠ rc
  l1 : w.heap.size ≤ nc
  l2 : w.heap.size ≤ pb
  l3 : w.heap.size ≤ rc
  ok : Suf.RkOk b L rank
  perm : o.Perm (List.range (b.length + 1))
  p0 : 0 < L
  p1 : L ≤ 65537
  ext : Ext w W
theorem SortS.rk {w : World} {b : List Int} {nc pb rc L lc rb : Nat} {rank : List Int} {o : List Nat} {W : World} (h : SortS w b nc pb rc L lc rb rank o W) {W' : World} (hC : Chg [pb] W W') : ∀ j, j ≤ b.length → W'.cell? ⟨rb, j, none⟩ = some (.int .i64 (rank.getD j 0)) := fun j hj =>
  (h.hr.chg hC (by simp [h.d4])).cell j _ (iv_get rank j (by rw [h.ok.len]; omega))
/-- Behind the sorting: new blocks may have come, the list of places has changed. -/
theorem SortS.sorted {w : World} {b : List Int} {nc pb rc L lc rb : Nat} {rank : List Int} {o o' : List Nat} {W W' : World} (h : SortS w b nc pb rc L lc rb rank o W) (hC : Chg [pb] W W') (hp : Blk W' pb 3 (nv o')) (ho : o'.Perm (List.range (b.length + 1))) : SortS w b nc pb rc L lc rb rank o' W' :=
  ⟨h.hn.chg hC (by simp [h.d1]), hp, h.hl.chg hC (by simp [h.d3]), h.hc.chg hC (by simp [h.d2]), h.hr.chg hC (by simp [h.d4]), h.d1, h.d2, h.d3, h.d4, h.d5, h.d6, h.d7, h.l1, h.l2, h.l3, h.ok, ho, h.p0, h.p1,
    Chg.ext ((Chg.of_ext [] h.ext).trans hC (fun x hx => Or.inr (by have := h.l2; simp at hx; omega)))⟩
theorem SortS.ext' {w : World} {b : List Int} {nc pb rc L lc rb : Nat} {rank : List Int} {o : List Nat} {W W' : World} (h : SortS w b nc pb rc L lc rb rank o W) (hX : Ext W W') : SortS w b nc pb rc L lc rb rank o W' :=
  h.sorted ((Chg.of_ext [pb] hX)) (h.hp.ext hX) h.perm
/-- A write to a block that is none of them. -/
theorem SortS.chg {w : World} {b : List Int} {nc pb rc L lc rb : Nat} {rank : List Int} {o : List Nat} {W W' : World} {x : Nat} (h : SortS w b nc pb rc L lc rb rank o W) (hC : Chg [x] W W') (h1 : nc ≠ x) (h2 : pb ≠ x) (h3 : lc ≠ x) (h4 : rc ≠ x) (h5 : rb ≠ x) (h6 : w.heap.size ≤ x) : SortS w b nc pb rc L lc rb rank o W' :=
  ⟨h.hn.chg hC (by simp [h1]), h.hp.chg hC (by simp [h2]), h.hl.chg hC (by simp [h3]), h.hc.chg hC (by simp [h4]), h.hr.chg hC (by simp [h5]), h.d1, h.d2, h.d3, h.d4, h.d5, h.d6, h.d7, h.l1, h.l2, h.l3, h.ok, h.perm, h.p0, h.p1,
    Chg.ext ((Chg.of_ext [] h.ext).trans hC (fun y hy => Or.inr (by simp at hy; omega)))⟩
end Go.Proofs.Ytfebgcbkadmgiaa
