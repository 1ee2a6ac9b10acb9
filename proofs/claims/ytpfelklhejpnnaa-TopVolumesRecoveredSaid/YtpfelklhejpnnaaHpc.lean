/- parity.whole: the plain functions, and its loop's memory. -/
import Derived.Test.YtpfelklhejpnnaaGw
import Derived.Test.YtpfelklhejpnnaaHab
namespace Go.Proofs.Ytpfelklhejpnnaa
open Go.RowKit Go.Shelf
set_option linter.unusedVariables false
set_option linter.unusedSimpArgs false
attribute [local go_sem] Oper.semAt_some

/-- The parts that are used: the first ones that are there. -/
def TI (P : List (List Int)) (d : Nat) : List Nat := (PI (ln P) P.length).take d
def someF (P : List (List Int)) (d : Nat) : List (List Int) := (TI P d).map fun i => (matF d (P.length - d)).getD i []
def basF (P : List (List Int)) (d : Nat) : List (List Int) := (TI P d).map fun i => P.getD i []
def origF (P : List (List Int)) (d s : Nat) : List (List Int) := (invF (someF P d) d).map fun row => combF row (basF P d) s
def wholeF (P : List (List Int)) (d s : Nat) : List (List Int) := (matF d (P.length - d)).map fun row => combF row (origF P d s) s
theorem own_grown {X Y : World} {row : Option Nat} {B : Nat} {e : TypeId} {sz n : Nat} {v : Value} {cs : List Value} (h : X.ownsRow B e sz v n cs) (hg : X.grownBy Y row) (hrow : ∀ r, row = some r → ∃ o : Obj, X.heap[r]? = some o ∧ o.isCells = false) : Y.ownsRow B e sz v n cs := by
  refine ⟨h.1, ?_⟩
  rcases h.2 with h1 | ⟨g, c, cur, hv, hb, hgg, h2, h3, h4, h5⟩
  · exact Or.inl h1
  · refine Or.inr ⟨g, c, cur, hv, hb, ?_, h2, h3, h4, h5⟩
    rw [grownBy_keeps_cells hg hrow hgg rfl]
    exact hgg
theorem own_grow_other {X Y : World} {row : Option Nat} {B : Nat} {e : TypeId} {sz n : Nat} {v : Value} {cs : List Value} (h : X.ownsRow B e sz v n cs) (hg : X.grownBy Y row) (hne : ∀ r, row = some r → v.ownBlock ≠ some r) : Y.ownsRow B e sz v n cs :=
  own_chg h ((Chg.refl row.toList X).grown hg (fun k hk => Or.inl (by simp [hk]))) (fun x hx => hne x (by simpa using hx))
/-- Two appends, one behind the other, to two own rows. -/
theorem pair_done {W V W1 V2 W9 : World} {B B2 : Nat} {e : TypeId} {k j : Nat} {us us' ub ub' : Value} {xs xs' ys ys' : List Value}
    (h1 : W.ownsRow B e 1 us k xs) (h2 : W.ownsRow B2 e 1 ub j ys) (hd : ∀ g, us.ownBlock = some g → ub.ownBlock ≠ some g) (hX : Ext W V)
    (o6 : W1.ownsRow B e 1 us' (k + 1) xs') (g6 : V.grownBy W1 us.ownBlock) (a6 : us'.ownBlock = us.ownBlock ∨ us'.ownBlock = some V.heap.size) (hX2 : Ext W1 V2)
    (o10 : W9.ownsRow B2 e 1 ub' (j + 1) ys') (g10 : V2.grownBy W9 ub.ownBlock) (a10 : ub'.ownBlock = ub.ownBlock ∨ ub'.ownBlock = some V2.heap.size) :
    W9.ownsRow B e 1 us' (k + 1) xs' ∧ W9.ownsRow B2 e 1 ub' (j + 1) ys' ∧ (∀ g, us'.ownBlock = some g → ub'.ownBlock ≠ some g) ∧ Chg (us.ownBlock.toList ++ ub.ownBlock.toList) W W9 := by
  have hus : ∀ g, us'.ownBlock = some g → ub.ownBlock ≠ some g := fun g hg hb => by
    rcases a6 with e | e
    · rw [e] at hg; exact hd g hg hb
    · rw [e] at hg
      have k1 := (own_lt h2 hb).2
      have k2 := hX.size
      have : V.heap.size = g := by simpa using hg
      omega
  refine ⟨own_grow_other (own_ext o6 hX2) g10 (fun r hr h => hus r h hr), o10, fun g hg hb => ?_, ?_⟩
  · rcases a10 with e | e
    · rw [e] at hb; exact hus g hg hb
    · rw [e] at hb
      have k1 := (own_lt o6 hg).2
      have k2 := hX2.size
      have : V2.heap.size = g := by simpa using hb
      omega
  · have c1 : Chg (us.ownBlock.toList ++ ub.ownBlock.toList) W W1 := (Chg.of_ext _ hX).grown g6 (fun r hr => Or.inl (by simp [hr]))
    have c2 : Chg (us.ownBlock.toList ++ ub.ownBlock.toList) W V2 := c1.trans (Chg.of_ext [] hX2) (by simp)
    exact c2.grown g10 (fun r hr => Or.inl (by simp [hr]))
/-- What whole's loop keeps: the rows and the parts so far. -/
def LoopI {p : Nat} (W0 : World) (s8 s9 : Nat) (f g : Nat → Value) (I : Nat → Nat) (pre : List (Fin p)) (W : World) : Prop :=
  ∃ us ub, (Blk W s8 26 [us] ∧ Blk W s9 26 [ub]) ∧ (W.ownsRow W0.heap.size 22 1 us pre.length (pre.map fun x => f (I x.val)) ∧ W.ownsRow W0.heap.size 22 1 ub pre.length (pre.map fun x => g (I x.val))) ∧ ∀ r, us.ownBlock = some r → ub.ownBlock ≠ some r
theorem loopI_own {p : Nat} (W0 : World) (s8 s9 : Nat) (f g : Nat → Value) (I : Nat → Nat) : Own (LoopI (p := p) W0 s8 s9 f g I) := fun s X Y row hs hg hrow => by
  obtain ⟨us, ub, ⟨h1, h2⟩, ⟨h3, h4⟩, h5⟩ := hs
  refine ⟨us, ub, ⟨?_, ?_⟩, ⟨own_grown h3 hg hrow, own_grown h4 hg hrow⟩, h5⟩
  · exact h1.grown hg (fun e' => by obtain ⟨o, ho, hc⟩ := hrow _ e'; rw [show X.heap[s8]? = _ from h1] at ho; cases ho; cases hc)
  · exact h2.grown hg (fun e' => by obtain ⟨o, ho, hc⟩ := hrow _ e'; rw [show X.heap[s9]? = _ from h2] at ho; cases ho; cases hc)
theorem rl_of_own {W0 W : World} {v : Value} {L : List (List Int)} {f : Nat → Value} {T : List Nat} (h : W.ownsRow W0.heap.size 22 1 v T.length (T.map f)) (hX : Ext W0 W) (hL : L.length = T.length) (hf : ∀ j, j < T.length → Rd8 W0 (f (T.getD j 0)) (L.getD j [])) : RL W v L := by
  refine ⟨T.map f, by rw [hL]; exact Rd.of_own h, by simp [hL], fun i u C hv hc => ?_⟩
  rw [List.getElem?_map] at hv hc
  cases e : T[i]? with
  | none => rw [e] at hv; simp at hv
  | some t =>
    have hi := (List.getElem?_eq_some_iff.1 e).1
    have e2 : L[i]? = some L[i] := List.getElem?_eq_getElem (by omega)
    rw [e] at hv
    rw [e2] at hc
    simp at hv hc
    subst hv hc
    have := hf i hi
    rw [List.getD_eq_getElem?_getD, List.getD_eq_getElem?_getD, e, e2] at this
    rw [bs_len]
    exact this.ext hX
theorem valueV {P : Program} {md : Region.Mode} {ops : Array Oper} {Q : Exit → Act → World → Prop} {S : World → Prop} {D : List Nat} (i : Nat) (v : Value) {oi : Oper} {d : Tmp} {fuel : Nat} {listed : Array Bool} {a : Act} {w w' : World} (hi : ops[i]? = some oi) (hd : oi.dst = some d)
    (hw : Region.wanted oi (yielded ops a.tmps) = true) (hrun : (execOp a.eval oi).run P w = .ok (.value v) w') (hS : i ∉ D → S w')
    (h : wpAnyD P md ops Q S D fuel (listed.setIfInBounds i true) { a with tmps := a.tmps.setIfInBounds d v } w') : wpOp P ops Q i (fun a' w' => (i ∉ D → S w') ∧ wpAnyD P md ops Q S D fuel (listed.setIfInBounds i true) a' w') a w := by
  unfold wpOp
  simp only [hi, hw, if_true]
  left
  unfold Oper.wp
  rw [hrun]
  show (i ∉ D → S w') ∧ wpAnyD P md ops Q S D fuel _ (a.put oi.dst v) w'
  rw [hd]
  exact ⟨hS, h⟩
/-- An append, of nothing perhaps, to an own row. -/
theorem appendV0 {P : Program} {md : Region.Mode} {ops : Array Oper} {Q : Exit → Act → World → Prop} {S : World → Prop} {D : List Nat} {fuel : Nat} {listed : Array Bool} (i : Nat) {oi : Oper} {dd : Tmp} {a : Act} {w : World} (hii : ops[i]? = some oi) (hd : oi.dst = some dd) (gi : oi.guard = none)
    (s x : Operand) (t : TypeId)
    (ho : oi.op = .call { callee := .builtin .append, args := #[s, x], argTypes := #[t, t] })
    (base : Nat) (e : TypeId) (i1 : TypeInfo) (z : Value) (size bytes : Nat) (ht : P.underlying t = some (.slice e)) (hi : P.info? e = some i1) (hz : i1.zero = some z)
    (hsize : i1.size = size) (hby : i1.bytes = bytes) (hzs : z.cells.size = size) (hsz : 0 < size)
    (v : Value) (n : Nat) (xs : List Value) (hs : a.eval s = v) (hown : w.ownsRow base e size v n xs)
    (y : Option Addr) (m c : Nat) (news : List Value) (hx : a.eval x = .slice y m c) (hr : Rd w size (.slice y m c) m news) (h1 : ∀ u ∈ news, u.oneCell' = true)
    (h63 : n + m ≤ maxLen) (hbytes : (n + m) * bytes ≤ 140737488355328) (hbase : base ≤ w.heap.size)
    (h : ∀ v' w', w'.ownsRow base e size v' (n + m) (xs ++ news) → w.grownBy w' v.ownBlock → (v'.ownBlock = v.ownBlock ∨ v'.ownBlock = some w.heap.size) →
      (i ∉ D → S w') ∧ wpAnyD P md ops Q S D fuel (listed.setIfInBounds i true) { a with tmps := a.tmps.setIfInBounds dd v' } w') :
    wpOp P ops Q i (fun a' w' => (i ∉ D → S w') ∧ wpAnyD P md ops Q S D fuel (listed.setIfInBounds i true) a' w') a w := by
  cases y with
  | none =>
    obtain ⟨hl, a', cap', e1, h3, h4, h5, h6⟩ := hr
    simp only [Value.slice.injEq] at e1
    obtain ⟨rfl, -, rfl⟩ := e1
    have hc := h5 rfl
    subst hc
    obtain rfl : m = 0 := by omega
    obtain rfl : news = [] := List.eq_nil_of_length_eq_zero (by omega)
    have hrr := run_append_owned_none (P := P) (w := w) base t oi.type e i1 size ht hi v n xs hown
    obtain ⟨hS, hh⟩ := h v w (by simpa using hown) ⟨rfl, rfl, rfl, Nat.le_refl _, fun _ _ _ => rfl⟩ (Or.inl rfl)
    refine valueV i v hii hd (by unfold Region.wanted; rw [gi]) (w' := w) ?_ hS hh
    unfold execOp
    simp only [ho, resolve, invoke, builtin, Sem.run_bind, Sem.run_pure, Result.andThen_ok, List.map_toArray, List.map_cons, List.map_nil, hs, hx, hrr]
  | some ad =>
    obtain ⟨v', w', hrr, h2, h3, h4, h5⟩ := run_append_own_at (P := P) w base t oi.type e i1 z size bytes ht hi hz hsize hby hzs hsz v n xs hown ad m c news hr.1 (Rd.news hr) h1 h63 hbytes hbase
    obtain ⟨hS, hh⟩ := h v' w' h2 h3 h5
    refine valueV i v' hii hd (by unfold Region.wanted; rw [gi]) (w' := w') ?_ hS hh
    unfold execOp
    simp only [ho, resolve, invoke, builtin, Sem.run_bind, Sem.run_pure, Result.andThen_ok, List.map_toArray, List.map_cons, List.map_nil, hs, hx, hrr]
/-- The stores behind the appends. -/
theorem loop_end {W0 W W9 : World} {s8 s9 k : Nat} {us us' ub ub' : Value} {xs xs' ys ys' : List Value} (hb8 : Blk W s8 26 [us]) (hb9 : Blk W s9 26 [ub]) (h89 : s8 ≠ s9)
    (h1 : W.ownsRow W0.heap.size 22 1 us k xs) (h2 : W.ownsRow W0.heap.size 22 1 ub k ys) (o6 : W9.ownsRow W0.heap.size 22 1 us' (k + 1) xs') (o10 : W9.ownsRow W0.heap.size 22 1 ub' (k + 1) ys')
    (hC : Chg (us.ownBlock.toList ++ ub.ownBlock.toList) W W9) (hE : Ext W0 W) (z8 : W0.heap.size ≤ s8) (z9 : W0.heap.size ≤ s9) :
    (W9.cell? ⟨s8, 0, none⟩ = some us ∧ W9.frozen? ⟨s8, 0, none⟩ = false ∧ (W9.setCell ⟨s8, 0, none⟩ us').cell? ⟨s9, 0, none⟩ = some ub ∧ (W9.setCell ⟨s8, 0, none⟩ us').frozen? ⟨s9, 0, none⟩ = false) ∧
    KeepsOthers W ((W9.setCell ⟨s8, 0, none⟩ us').setCell ⟨s9, 0, none⟩ ub') ∧
    (∀ b t cs, Blk W b t cs → t ≠ 22 → b ≠ s8 → b ≠ s9 → Blk ((W9.setCell ⟨s8, 0, none⟩ us').setCell ⟨s9, 0, none⟩ ub') b t cs) ∧ W.heap.size ≤ ((W9.setCell ⟨s8, 0, none⟩ us').setCell ⟨s9, 0, none⟩ ub').heap.size ∧
    (Blk ((W9.setCell ⟨s8, 0, none⟩ us').setCell ⟨s9, 0, none⟩ ub') s8 26 [us'] ∧ Blk ((W9.setCell ⟨s8, 0, none⟩ us').setCell ⟨s9, 0, none⟩ ub') s9 26 [ub']) ∧
    (((W9.setCell ⟨s8, 0, none⟩ us').setCell ⟨s9, 0, none⟩ ub').ownsRow W0.heap.size 22 1 us' (k + 1) xs' ∧ ((W9.setCell ⟨s8, 0, none⟩ us').setCell ⟨s9, 0, none⟩ ub').ownsRow W0.heap.size 22 1 ub' (k + 1) ys') ∧
    Ext W0 ((W9.setCell ⟨s8, 0, none⟩ us').setCell ⟨s9, 0, none⟩ ub') := by
  have n8 : ∀ x ∈ us.ownBlock.toList ++ ub.ownBlock.toList, ∀ b t cs, Blk W b t cs → t ≠ 22 → b ≠ x := fun x hx b t cs hb ht e => by
    subst e
    rcases List.mem_append.1 hx with h | h
    · exact own_ne_blk h1 hb ht (by simpa using h)
    · exact own_ne_blk h2 hb ht (by simpa using h)
  have keep : ∀ b t cs, Blk W b t cs → t ≠ 22 → Blk W9 b t cs := fun b t cs hb ht => hb.chg hC (fun hm => n8 b hm b t cs hb ht rfl)
  have g8 := keep _ _ _ hb8 (by decide)
  have g9 := keep _ _ _ hb9 (by decide)
  have e8 := g8.set 0 us'
  have e9 := g9.set_other (i := 0) (c := s8) (fun e => h89 e.symm) us'
  have hC2 : Chg (us.ownBlock.toList ++ ub.ownBlock.toList ++ [s8, s9]) W ((W9.setCell ⟨s8, 0, none⟩ us').setCell ⟨s9, 0, none⟩ ub') := ((hC.mono (by simp; intro x hx; rcases hx with h | h <;> simp [h])).setCell (p := ⟨s8, 0, none⟩) (Or.inl (by simp)) us').setCell (p := ⟨s9, 0, none⟩) (Or.inl (by simp)) ub'
  refine ⟨⟨g8.cell 0 _ rfl, g8.frozen 0, e9.cell 0 _ rfl, e9.frozen 0⟩, chg_keeps hC2 (fun x hx o ho => ?_), fun b t cs hb ht h8 h9 => ((keep b t cs hb ht).set_other h8 us').set_other h9 ub', hC2.size, ⟨e8.set_other h89 ub', e9.set 0 ub'⟩, ⟨?_, ?_⟩, ?_⟩
  · rcases List.mem_append.1 hx with hx | hx
    · have : ∃ cs t fr, W.heap[x]? = some (.cells cs t fr) := by
        rcases List.mem_append.1 hx with h | h
        · obtain ⟨g, cap, cur, hv, hb, hg, -⟩ := h1.2.resolve_left (fun e => by rw [e.1] at h; simp [Value.ownBlock] at h)
          rw [hv] at h
          have : g = x := by simpa [Value.ownBlock, eq_comm] using h
          subst this
          exact ⟨_, _, _, hg⟩
        · obtain ⟨g, cap, cur, hv, hb, hg, -⟩ := h2.2.resolve_left (fun e => by rw [e.1] at h; simp [Value.ownBlock] at h)
          rw [hv] at h
          have : g = x := by simpa [Value.ownBlock, eq_comm] using h
          subst this
          exact ⟨_, _, _, hg⟩
      obtain ⟨cs, t, fr, e⟩ := this
      rw [e] at ho
      cases ho
      rfl
    · simp at hx
      rcases hx with rfl | rfl
      · rw [show W.heap[x]? = _ from hb8] at ho; cases ho; rfl
      · rw [show W.heap[x]? = _ from hb9] at ho; cases ho; rfl
  · refine ownsRow_setCell_other (ownsRow_setCell_other o6 (a := ⟨s8, 0, none⟩) ?_ _) (a := ⟨s9, 0, none⟩) ?_ _
    · exact own_ne_blk o6 g8 (by decide)
    · exact own_ne_blk o6 g9 (by decide)
  · refine ownsRow_setCell_other (ownsRow_setCell_other o10 (a := ⟨s8, 0, none⟩) ?_ _) (a := ⟨s9, 0, none⟩) ?_ _
    · exact own_ne_blk o10 g8 (by decide)
    · exact own_ne_blk o10 g9 (by decide)
  · refine Chg.ext ((Chg.of_ext [] hE).trans hC2 (fun x hx => Or.inr ?_))
    rcases List.mem_append.1 hx with hx | hx
    · rcases List.mem_append.1 hx with h | h
      · exact (own_lt h1 (by simpa using h)).1
      · exact (own_lt h2 (by simpa using h)).1
    · simp at hx; omega
end Go.Proofs.Ytpfelklhejpnnaa

/- Rows combined of combined rows; plain. -/
namespace Go.Proofs.Ytpfelklhejpnnaa
set_option linter.unusedVariables false
set_option linter.unusedSimpArgs false

/-- A cell of a combination: the sum. -/
def sumX (row : List Int) (P : List (List Int)) (j : Nat) : Nat → Nat
  | 0 => 0
  | k + 1 => sumX row P j k ^^^ Gf.mul (row.getD k 0).toNat ((P.getD k []).getD j 0).toNat
theorem mixF_at (f : Nat) (T F : List Int) (j : Nat) (hj : j < T.length) : (mixF f T F).getD j 0 = mixB f T F j := by
  unfold mixF
  rw [List.getD_eq_getElem?_getD, List.getElem?_map, List.getElem?_range hj]
  rfl
theorem combK_at (row : List Int) (P : List (List Int)) (s j : Nat) (hj : j < s) : ∀ k, (combK row P s k).getD j 0 = (sumX row P j k : Int)
  | 0 => by simp [combK, sumX, List.getD, hj]
  | k + 1 => by
    have ih := combK_at row P s j hj k
    rw [combK, mixF_at _ _ _ _ (by rw [combK_len]; exact hj)]
    unfold mixB
    rw [ih, Int.toNat_natCast]
    rfl
theorem combF_at (row : List Int) (P : List (List Int)) (s j : Nat) (hj : j < s) : (combF row P s).getD j 0 = (sumX row P j row.length : Int) := combK_at row P s j hj _
theorem combF_len (row : List Int) (P : List (List Int)) (s : Nat) : (combF row P s).length = s := combK_len _ _ _ _
theorem ext_getD {a b : List Int} (hl : a.length = b.length) (h : ∀ j, j < a.length → a.getD j 0 = b.getD j 0) : a = b := by
  apply List.ext_getElem hl
  intro i h1 h2
  have := h i h1
  simpa [List.getD, h1, h2] using this
theorem sumX_lt (row : List Int) (P : List (List Int)) (j : Nat) : ∀ k, sumX row P j k < 256
  | 0 => by rw [sumX]; omega
  | k + 1 => Gf.xor_lt (sumX_lt row P j k) (Gf.mul_lt _ _)
theorem xor4c (a b c d : Nat) : (a ^^^ b) ^^^ (c ^^^ d) = (a ^^^ c) ^^^ (b ^^^ d) := by
  rw [Nat.xor_assoc, Nat.xor_assoc, ← Nat.xor_assoc b, Nat.xor_comm b c, Nat.xor_assoc c]
def sumR (f : Nat → Nat) : Nat → Nat
  | 0 => 0
  | k + 1 => sumR f k ^^^ f k
theorem sumX_eq (row : List Int) (P : List (List Int)) (j : Nat) : ∀ k, sumX row P j k = sumR (fun i => Gf.mul (row.getD i 0).toNat ((P.getD i []).getD j 0).toNat) k
  | 0 => rfl
  | k + 1 => by rw [sumX, sumX_eq row P j k]; rfl
theorem sumR_congr {f g : Nat → Nat} : ∀ {k : Nat}, (∀ i, i < k → f i = g i) → sumR f k = sumR g k
  | 0, _ => rfl
  | k + 1, h => by rw [sumR, sumR, sumR_congr (fun i hi => h i (by omega)), h k (by omega)]
theorem sumR_xor (f g : Nat → Nat) : ∀ k, sumR (fun i => f i ^^^ g i) k = sumR f k ^^^ sumR g k
  | 0 => by simp [sumR]
  | k + 1 => by rw [sumR, sumR_xor f g k, sumR, sumR, xor4c]
theorem sumR_zero : ∀ k, sumR (fun _ => 0) k = 0
  | 0 => rfl
  | k + 1 => by rw [sumR, sumR_zero k]; rfl
theorem sumR_swap (f : Nat → Nat → Nat) (m : Nat) : ∀ n, sumR (fun i => sumR (fun k => f i k) m) n = sumR (fun k => sumR (fun i => f i k) n) m
  | 0 => by rw [sumR]; exact (sumR_zero m).symm
  | n + 1 => by
    rw [sumR, sumR_swap f m n]
    rw [← sumR_xor]
    rfl
theorem sumR_lt {f : Nat → Nat} (h : ∀ i, f i < 256) : ∀ k, sumR f k < 256
  | 0 => by rw [sumR]; omega
  | k + 1 => Gf.xor_lt (sumR_lt h k) (h k)
theorem mul_sum (a : Nat) (f : Nat → Nat) (ha : a < 256) (h : ∀ i, f i < 256) : ∀ k, Gf.mul a (sumR f k) = sumR (fun i => Gf.mul a (f i)) k
  | 0 => by show Gf.mul a 0 = 0; simp [Gf.mul]
  | k + 1 => by rw [sumR, Gf.mul_xor ha (sumR_lt h k) (h k), mul_sum a f ha h k]; rfl
theorem sum_mul (a : Nat) (f : Nat → Nat) (ha : a < 256) (h : ∀ i, f i < 256) (k : Nat) : Gf.mul (sumR f k) a = sumR (fun i => Gf.mul (f i) a) k := by
  rw [Gf.mul_comm, mul_sum a f ha h k]
  exact sumR_congr (fun i _ => Gf.mul_comm _ _)
theorem bytes_nat {l : List Int} (h : Bytes l) (i : Nat) : (l.getD i 0).toNat < 256 := by
  by_cases hi : i < l.length
  · have := h.get i hi; omega
  · rw [List.getD_eq_getElem?_getD, List.getElem?_eq_none (by omega)]
    show (0 : Int).toNat < 256
    decide
theorem getD_bytes {P : List (List Int)} (h : ∀ l ∈ P, Bytes l) (i : Nat) : Bytes (P.getD i []) := by
  by_cases hi : i < P.length
  · rw [List.getD_eq_getElem?_getD, List.getElem?_eq_getElem hi]
    exact h _ (List.getElem_mem _)
  · rw [List.getD_eq_getElem?_getD, List.getElem?_eq_none (by omega)]
    intro x hx
    cases hx
theorem map_getD {f : List Int → List Int} {K : List (List Int)} {i : Nat} (hi : i < K.length) : (K.map f).getD i [] = f (K.getD i []) := by
  rw [List.getD_eq_getElem?_getD, List.getElem?_map, List.getElem?_eq_getElem hi, List.getD_eq_getElem?_getD, List.getElem?_eq_getElem hi]
  rfl
/-- A combination of combinations. -/
theorem comb_assoc (row : List Int) (K D : List (List Int)) (d s : Nat) (hr : row.length = K.length) (hK : Wide K d) (hrb : Bytes row) (hKb : ∀ l ∈ K, Bytes l) (hDb : ∀ l ∈ D, Bytes l) :
    combF row (K.map fun kr => combF kr D s) s = combF (combF row K d) D s := by
  refine ext_getD (by rw [combF_len, combF_len]) (fun j hj => ?_)
  rw [combF_len] at hj
  rw [combF_at _ _ _ _ hj, combF_at _ _ _ _ hj, combF_len]
  congr 1
  rw [sumX_eq, sumX_eq]
  have e1 : ∀ i, i < row.length → Gf.mul (row.getD i 0).toNat (((K.map fun kr => combF kr D s).getD i []).getD j 0).toNat = sumR (fun k => Gf.mul (Gf.mul (row.getD i 0).toNat ((K.getD i []).getD k 0).toNat) ((D.getD k []).getD j 0).toNat) d := fun i hi => by
    have hi' : i < K.length := by omega
    rw [map_getD hi', combF_at _ _ _ _ hj, Int.toNat_natCast, sumX_eq, hK.at hi', mul_sum _ _ (bytes_nat hrb i) (fun k => Gf.mul_lt _ _)]
    exact sumR_congr (fun k _ => Gf.mul_assoc (bytes_nat hrb i) (bytes_nat (getD_bytes hKb i) k) (bytes_nat (getD_bytes hDb k) j))
  rw [sumR_congr e1, sumR_swap]
  refine sumR_congr (fun k hk => ?_)
  rw [combF_at _ _ _ _ hk, Int.toNat_natCast, sumX_eq, sum_mul _ _ (bytes_nat (getD_bytes hDb k) j) (fun i => Gf.mul_lt _ _)]
/-- The unit rows. -/
theorem sumR_one (f : Nat → Nat) (i : Nat) (h : ∀ k, k ≠ i → f k = 0) : ∀ n, sumR f n = if i < n then f i else 0
  | 0 => by simp [sumR]
  | n + 1 => by
    rw [sumR, sumR_one f i h n]
    by_cases h1 : i < n
    · rw [if_pos h1, if_pos (by omega), h n (by omega), Nat.xor_zero]
    · by_cases h2 : i = n
      · subst h2; rw [if_neg h1, if_pos (by omega), Nat.zero_xor]
      · rw [if_neg h1, if_neg (by omega), h n (by omega)]; rfl
theorem unitR_at (d i k : Nat) (hi : i < d) : (unitR d i).getD k 0 = if k = i then 1 else 0 := by
  unfold unitR
  by_cases e : k = i
  · subst e
    rw [if_pos rfl, List.getD_eq_getElem?_getD, List.getElem?_set_self (by simpa using hi)]
    rfl
  · rw [if_neg e, List.getD_eq_getElem?_getD, List.getElem?_set_ne (by omega)]
    by_cases hk : k < d
    · rw [List.getElem?_replicate, if_pos hk]; rfl
    · rw [List.getElem?_eq_none (by simpa using hk)]; rfl
theorem comb_unit (d i s : Nat) (D : List (List Int)) (hi : i < d) (hDl : D.length = d) (hD : Wide D s) (hDb : ∀ l ∈ D, Bytes l) : combF (unitR d i) D s = D.getD i [] := by
  have hDi := hD.at (show i < D.length by omega)
  refine ext_getD (by rw [combF_len, hDi]) (fun j hj => ?_)
  rw [combF_len] at hj
  rw [combF_at _ _ _ _ hj, sumX_eq, unitR_len, sumR_one _ i (fun k hk => by rw [unitR_at d i k hi, if_neg hk]; simp [Gf.mul]), if_pos hi, unitR_at d i i hi, if_pos rfl]
  have hb := (getD_bytes hDb i).get j (by omega)
  rw [show (1 : Int).toNat = 1 from rfl, Gf.one_mul (bytes_nat (getD_bytes hDb i) j)]
  omega
end Go.Proofs.Ytpfelklhejpnnaa
