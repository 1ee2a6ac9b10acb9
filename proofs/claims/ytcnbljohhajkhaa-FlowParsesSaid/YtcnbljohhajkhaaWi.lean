/- Layer 18: the writer's list of blocks. -/
import Derived.Test.YtcnbljohhajkhaaWh
import Derived.Test.YtcnbljohhajkhaaVg
import Derived.Test.YtcnbljohhajkhaaR
import Derived.Deep.RegionLaw
import Derived.Test.YtcnbljohhajkhaaHs
import Derived.Deep.Cut
import Derived.Deep.CutRange
import Derived.Deep.CutBlock
namespace Go.Proofs.Ytcnbljohhajkhaa
open Go.RowKit
set_option linter.unusedVariables false
set_option linter.unusedSimpArgs false
attribute [local go_sem ↓] Go.wp_at_zero Go.wp_at_succ

/-- The code of a tree. -/
def flF (C : List (Int × Int)) : T → List (Int × Int)
  | .nil => []
  | .cons op f t b o r => (if op = -1 then (C.drop f.toNat).take (t.toNat - f.toNat) else C.getD f.toNat (0, 0) :: (flF C b ++ (if o.len = 0 then [] else (28, 0) :: flF C o) ++ [C.getD (t.toNat - 1) (0, 0)])) ++ flF C r
def okF (C : List (Int × Int)) : Nat → T → Prop
  | _, .nil => True
  | d, .cons op f t b o r => 0 ≤ f ∧ 0 ≤ t ∧ okB C d op f.toNat t.toNat b.len o.len ∧ (op ≠ -1 → okF C (d + 1) b ∧ okF C (d + 1) o) ∧ okF C d r
theorem flF_app (C : List (Int × Int)) (a b : T) : flF C (a.app b) = flF C a ++ flF C b := by
  induction a with
  | nil => rfl
  | cons op f t b o r _ _ ih => simp only [T.app, flF, ih, List.append_assoc]
theorem okF_app (C : List (Int × Int)) (d : Nat) (a b : T) (h : okF C d (a.app b)) : okF C d b := by
  induction a with
  | nil => exact h
  | cons op f t b o r _ _ ih => simp only [T.app, okF] at h; exact ih h.2.2.2.2
theorem okF_len (C : List (Int × Int)) (t : T) : ∀ d, okF C d t → t.len ≤ (flF C t).length := by
  induction t with
  | nil => intro d h; simp [T.len]
  | cons op f t b o r _ _ ih =>
    intro d h
    obtain ⟨h1, h2, h3, -, h5⟩ := h
    have := ih d h5
    have h6 := h3.1
    simp only [T.len, flF, List.length_append]
    split
    · simp only [List.length_take, List.length_drop]; omega
    · simp only [List.length_cons]; omega
def OwnC (w : World) (B : Nat) (v : Value) (l : List (Int × Int)) : Prop := w.ownsRow B 45 2 v l.length (l.flatMap icell)
structure WS (w wx : World) (B bw : Nat) (vc vo vo' : Value) (l : List (Int × Int)) : Prop where
  blk : Blk wx bw 68 [vc, vo']
  out : OwnC wx B vo' l
  ne : ∀ k, vo'.ownBlock = some k → k ≠ bw ∧ (vo.ownBlock = some k ∨ w.heap.size ≤ k)
  chg : Chg (bw :: vo.ownBlock.toList) w wx
theorem WS.trans {w wx wy : World} {B bw : Nat} {vc vo v1 v2 : Value} {l l2 : List (Int × Int)} (h : WS w wx B bw vc vo v1 l) (k : WS wx wy B bw vc v1 v2 l2) : WS w wy B bw vc vo v2 l2 := by
  have hs := h.chg.size
  refine ⟨k.blk, k.out, fun j hj => ⟨(k.ne j hj).1, ?_⟩, h.chg.trans k.chg (fun x hx => ?_)⟩
  · rcases (k.ne j hj).2 with h1 | h1
    · exact (h.ne j h1).2
    · exact Or.inr (by omega)
  · simp only [List.mem_cons, Option.mem_toList] at hx ⊢
    rcases hx with h1 | h1
    · exact Or.inl (Or.inl h1)
    · rcases (h.ne x h1).2 with h2 | h2
      · exact Or.inl (Or.inr h2)
      · exact Or.inr h2
theorem WS.ext {w wx wy : World} {B bw : Nat} {vc vo v1 : Value} {l : List (Int × Int)} (h : WS w wx B bw vc vo v1 l) (X : Ext wx wy) : WS w wy B bw vc vo v1 l :=
  ⟨h.blk.ext X, own_ext h.out X, h.ne, (h.chg.trans (Chg.of_ext [] X) (by simp))⟩
theorem WS.refl {w : World} {B bw : Nat} {vc vo : Value} {l : List (Int × Int)} (h : Blk w bw 68 [vc, vo]) (ho : OwnC w B vo l) (hn : vo.ownBlock ≠ some bw) : WS w w B bw vc vo vo l :=
  ⟨h, ho, fun k hk => ⟨fun e => hn (by rw [hk, e]), Or.inl hk⟩, Chg.refl _ w⟩
/-- An append, stored. -/
theorem WS.push {w w2 : World} {B bw : Nat} {vc vo v2 : Value} {l l2 : List (Int × Int)} (h : Blk w bw 68 [vc, vo]) (hn : vo.ownBlock ≠ some bw) (ho : OwnC w2 B v2 l2) (hg : w.grownBy w2 vo.ownBlock) (hat : v2.ownBlock = vo.ownBlock ∨ ∀ k, v2.ownBlock = some k → w.heap.size ≤ k) :
    WS w (w2.setCell ⟨bw, 1, none⟩ v2) B bw vc vo v2 l2 := by
  have hlt := h.lt
  have hne : ∀ k, v2.ownBlock = some k → k ≠ bw ∧ (vo.ownBlock = some k ∨ w.heap.size ≤ k) := fun k hk => by
    rcases hat with h1 | h1
    · rw [h1] at hk
      exact ⟨fun e => hn (by rw [hk, e]), Or.inl hk⟩
    · have := h1 k hk
      exact ⟨by omega, Or.inr this⟩
  refine ⟨(h.grown hg hn).set 1 v2, own_chg ho ((Chg.refl [bw] w2).setCell (Or.inl (by simp)) _) (fun x hx e => by simp at hx; exact (hne x e).1 hx), hne, ?_⟩
  have c1 : Chg (bw :: vo.ownBlock.toList) w w2 := (Chg.refl _ w).grown hg (fun k hk => Or.inl (by simp [hk]))
  exact c1.setCell (Or.inl (by simp)) _
theorem insinfo : (Try.prog.info? 45).map (fun i => (i.zero, i.size, i.bytes)) = some (some (.agg #[.int .i64 0, .int .u32 0]), 2, 16) := by kernel_rfl
def nodes : T → Nat
  | .nil => 0
  | .cons _ _ _ b o r => nodes b + nodes o + nodes r + 1
theorem nodes_app (a b : T) : nodes (a.app b) = nodes a + nodes b := by
  induction a with
  | nil => simp [T.app, nodes]
  | cons op f t b o r _ _ ih => simp only [T.app, nodes, ih]; omega

/-- append of a slice that is read, at a step of a region that draws its order; where the row then lies. -/
theorem step_append_rd2 {P : Program} {w : World} {ops : Array Oper} {o : Oper} {a : Act} {K : Act → World → Prop} {Q : Exit → Act → World → Prop} {E : Prop} (hgd : o.guard = none) (s x : Operand) (t : TypeId)
    (ho : o.op = .call { callee := .builtin .append, args := #[s, x], argTypes := #[t, t] })
    (base : Nat) (e : TypeId) (i : TypeInfo) (z : Value) (size bytes : Nat) (ht : P.underlying t = some (.slice e)) (hi : P.info? e = some i) (hz : i.zero = some z)
    (hsize : i.size = size) (hby : i.bytes = bytes) (hzs : z.cells.size = size) (hsz : 0 < size)
    (v : Value) (n : Nat) (xs : List Value) (hs : a.eval s = v) (hown : w.ownsRow base e size v n xs)
    (y : Option Addr) (m c : Nat) (news : List Value) (hx : a.eval x = .slice y m c) (hr : Rd w size (.slice y m c) m news) (h1 : ∀ u ∈ news, u.oneCell' = true)
    (h63 : n + m ≤ maxLen) (hbytes : (n + m) * bytes ≤ 140737488355328) (hbase : base ≤ w.heap.size) (hm : 0 < m)
    (h : ∀ v' w', w'.ownsRow base e size v' (n + m) (xs ++ news) → w.grownBy w' v.ownBlock → (v'.ownBlock = v.ownBlock ∨ v'.ownBlock = some w.heap.size) → K (a.put o.dst v') w') :
    if Region.wanted o (yielded ops a.tmps) = true then Oper.wp P o a w K Q else E := by
  have hw : Region.wanted o (yielded ops a.tmps) = true := by simp [Region.wanted, hgd]
  rw [if_pos hw]
  obtain ⟨ad, rfl⟩ : ∃ ad, y = some ad := by
    obtain ⟨b, off, e, -⟩ := hr.cells hm
    exact ⟨_, e⟩
  obtain ⟨v', w', hrr, h2, h3, h4, h5⟩ := run_append_own_at (P := P) w base t o.type e i z size bytes ht hi hz hsize hby hzs hsz v n xs hown ad m c news hr.1 (Rd.news hr) h1 h63 hbytes hbase
  unfold Oper.wp execOp
  simp only [ho, resolve, invoke, builtin, Sem.run_bind, Sem.run_pure, Result.andThen_ok, List.map_toArray, List.map_cons, List.map_nil, hs, hx, hrr]
  exact h v' w' h2 h3 h5
theorem rd_new1 (w : World) (x y : Value) (e : TypeId) : Rd (w.alloc (.cells #[x, y] e)) 2 (.slice (some ⟨w.heap.size, 0, none⟩) 1 1) 1 [x, y] := by
  have hb := Blk.new w [x, y] e
  refine ⟨rfl, _, _, rfl, Nat.le_refl _, by decide, by simp, fun _ => ⟨_, _, rfl, by simp, fun j hj => ?_⟩⟩
  match j, hj with
  | 0, _ => exact hb.cell 0 _ rfl
  | 1, _ => exact hb.cell 1 _ rfl
theorem icell_one (l : List (Int × Int)) : ∀ u ∈ l.flatMap icell, u.oneCell' = true := by
  intro u hu
  obtain ⟨x, -, hx⟩ := List.mem_flatMap.1 hu
  simp only [icell, List.mem_cons, List.not_mem_nil, or_false] at hx
  rcases hx with rfl | rfl <;> rfl
theorem flat_cut (C : List (Int × Int)) (f t : Nat) : ((C.flatMap icell).drop (f * 2)).take ((t - f) * 2) = ((C.drop f).take (t - f)).flatMap icell := by
  have h1 : ∀ (l : List (Int × Int)) k, (l.flatMap icell).drop (k * 2) = (l.drop k).flatMap icell := by
    intro l
    induction l with
    | nil => intro k; simp
    | cons x l ih =>
      intro k
      cases k with
      | zero => simp
      | succ k => rw [Nat.succ_mul]; simp only [List.flatMap_cons, icell, List.cons_append, List.nil_append, List.drop_succ_cons]; exact ih k
  have h2 : ∀ (l : List (Int × Int)) k, (l.flatMap icell).take (k * 2) = (l.take k).flatMap icell := by
    intro l
    induction l with
    | nil => intro k; simp
    | cons x l ih =>
      intro k
      cases k with
      | zero => simp
      | succ k => rw [Nat.succ_mul]; simp only [List.flatMap_cons, icell, List.cons_append, List.nil_append, List.take_succ_cons]; rw [ih k]
  rw [h1, h2]
theorem code_at2 {w : World} {b off n cap : Nat} {C : List (Int × Int)} (h : Code18 w (.slice (some ⟨b, off, none⟩) n cap) C) (k : Nat) (hk : k < C.length) :
    w.cell? ⟨b, off + k * 2, none⟩ = some (.int .i64 (C.getD k (0, 0)).1) ∧ w.cell? ⟨b, off + k * 2 + 1, none⟩ = some (.int .u32 (C.getD k (0, 0)).2) := by
  have hn : C.length = n := by obtain ⟨a, c, e, -⟩ := h.2; simp at e; exact e.2.1.symm
  have hx : C[k]? = some (C.getD k (0, 0)) := by rw [List.getElem?_eq_getElem hk]; simp [List.getD, List.getElem?_eq_getElem hk]
  unfold Code18 at h
  rw [hn] at h
  exact rd2_at (E := icell) (fun _ => rfl) h k _ hx _ _ rfl

/-- What a region of the writer reads. -/
structure SC (W : World) (bw q : Nat) (vc x1 x2 : Value) (pc o0 : Nat) (u0 u1 : Value) : Prop where
  h0 : W.cell? ⟨bw, 0, none⟩ = some vc
  h1 : W.cell? ⟨q, 1, none⟩ = some x1
  h2 : W.cell? ⟨q, 2, none⟩ = some x2
  h3 : W.cell? ⟨pc, o0, none⟩ = some u0
  h4 : W.cell? ⟨pc, o0 + 1, none⟩ = some u1
theorem SC.ext {W W' : World} {bw q : Nat} {vc x1 x2 : Value} {pc o0 : Nat} {u0 u1 : Value} (h : SC W bw q vc x1 x2 pc o0 u0 u1) (X : Ext W W') : SC W' bw q vc x1 x2 pc o0 u0 u1 := ⟨X.cell h.h0, X.cell h.h1, X.cell h.h2, X.cell h.h3, X.cell h.h4⟩
theorem SC.grown {W W' : World} {bw q : Nat} {vc x1 x2 v : Value} {pc o0 : Nat} {u0 u1 : Value} (h : SC W bw q vc x1 x2 pc o0 u0 u1) (g : W.grownBy W' v.ownBlock) (n1 : v.ownBlock ≠ some bw) (n2 : v.ownBlock ≠ some q) (n3 : v.ownBlock ≠ some pc) : SC W' bw q vc x1 x2 pc o0 u0 u1 :=
  ⟨g.cell h.h0 (Ne.symm n1), g.cell h.h1 (Ne.symm n2), g.cell h.h2 (Ne.symm n2), g.cell h.h3 (Ne.symm n3), g.cell h.h4 (Ne.symm n3)⟩
theorem SC.set {W : World} {bw q : Nat} {vc x1 x2 : Value} {pc o0 : Nat} {u0 u1 : Value} (h : SC W bw q vc x1 x2 pc o0 u0 u1) (n1 : bw ≠ q) (n2 : bw ≠ pc) (v : Value) : SC (W.setCell ⟨bw, 1, none⟩ v) bw q vc x1 x2 pc o0 u0 u1 :=
  ⟨(World.cell?_setCell_other _ _ _ _ (by simp)).trans h.h0, (World.cell?_setCell_far _ _ _ _ n1).trans h.h1, (World.cell?_setCell_far _ _ _ _ n1).trans h.h2, (World.cell?_setCell_far _ _ _ _ n2).trans h.h3, (World.cell?_setCell_far _ _ _ _ n2).trans h.h4⟩
theorem wpOp_value {P : Program} {ops : Array Oper} {Q : Exit → Act → World → Prop} {K : Act → World → Prop} (i : Nat) {oi : Oper} (v : Value) {d : Tmp} {a : Act} {w w' : World} (hi : ops[i]? = some oi) (hd : oi.dst = some d)
    (hw : Region.wanted oi (yielded ops a.tmps) = true) (hy : (execOp a.eval oi).run P w = .ok (.value v) w') (h : K { a with tmps := a.tmps.setIfInBounds d v } w') : wpOp P ops Q i K a w := by
  unfold wpOp
  simp only [hi, hw, if_true]
  left
  unfold Oper.wp
  rw [hy]
  show K (a.put oi.dst v) w'
  rw [hd]
  exact h
theorem wpOp_append {P : Program} {ops : Array Oper} {Q : Exit → Act → World → Prop} {K : Act → World → Prop} (i : Nat) {oi : Oper} {dd : Tmp} {a : Act} {w : World} (hii : ops[i]? = some oi) (hd : oi.dst = some dd)
    (hw : Region.wanted oi (yielded ops a.tmps) = true) (s x : Operand) (t : TypeId)
    (ho : oi.op = .call { callee := .builtin .append, args := #[s, x], argTypes := #[t, t] })
    (base : Nat) (e : TypeId) (i1 : TypeInfo) (z : Value) (size bytes : Nat) (ht : P.underlying t = some (.slice e)) (hi : P.info? e = some i1) (hz : i1.zero = some z)
    (hsize : i1.size = size) (hby : i1.bytes = bytes) (hzs : z.cells.size = size) (hsz : 0 < size)
    (v : Value) (n : Nat) (xs : List Value) (hs : a.eval s = v) (hown : w.ownsRow base e size v n xs)
    (y : Option Addr) (m c : Nat) (news : List Value) (hx : a.eval x = .slice y m c) (hr : Rd w size (.slice y m c) m news) (h1 : ∀ u ∈ news, u.oneCell' = true)
    (h63 : n + m ≤ maxLen) (hbytes : (n + m) * bytes ≤ 140737488355328) (hbase : base ≤ w.heap.size) (hm : 0 < m)
    (h : ∀ v' w', w'.ownsRow base e size v' (n + m) (xs ++ news) → w.grownBy w' v.ownBlock → (v'.ownBlock = v.ownBlock ∨ v'.ownBlock = some w.heap.size) → K { a with tmps := a.tmps.setIfInBounds dd v' } w') :
    wpOp P ops Q i K a w := by
  obtain ⟨ad, rfl⟩ : ∃ ad, y = some ad := by
    obtain ⟨b, off, e, -⟩ := hr.cells hm
    exact ⟨_, e⟩
  obtain ⟨v', w', hrr, h2, h3, h4, h5⟩ := run_append_own_at (P := P) w base t oi.type e i1 z size bytes ht hi hz hsize hby hzs hsz v n xs hown ad m c news hr.1 (Rd.news hr) h1 h63 hbytes hbase
  refine wpOp_value i v' hii hd hw (w' := w') ?_ (h v' w' h2 h3 h5)
  unfold execOp
  simp only [ho, resolve, invoke, builtin, Sem.run_bind, Sem.run_pure, Result.andThen_ok, List.map_toArray, List.map_cons, List.map_nil, hs, hx, hrr]

def WlOK (C : List (Int × Int)) (t : T) : Prop := ∀ (w : World) (B bw : Nat) (vc vo vt : Value) (l : List (Int × Int)) (d : Nat), Blk w bw 68 [vc, vo] → Code18 w vc C → (0 < C.length → ∀ k, vc.ownBlock = some k → k < B) → OwnC w B vo l → vo.ownBlock ≠ some bw → B ≤ bw →
  SubAt w (fun k => k < B) vt t → okF C d t → d ≤ 8 → l.length + (flF C t).length ≤ 100000 →
  Calls Try.prog 33 #[.pointer (some ⟨bw, 0, none⟩), vt, .int .i64 (d : Int)] w fun x w' => x = .returned (.tuple #[]) ∧ ∃ vo', WS w w' B bw vc vo vo' (l ++ flF C t)

set_option maxHeartbeats 4000000 in
set_option maxRecDepth 100000 in
theorem wlist_any (C : List (Int × Int)) (hlC : C.length ≤ 1024) (t : T) (ih : ∀ t', nodes t' < nodes t → WlOK C t') : WlOK C t := by
  intro w B bw vc vo vt l d hb hC hoff ho hne hBw ht hok hd hlen
  obtain ⟨ct, hrt, hqt, hft⟩ := ht
  obtain ⟨at', cpt, rfl, hcpt, -⟩ := Rd.shape hrt
  obtain ⟨n, hn⟩ : ∃ n, t.len = n := ⟨_, rfl⟩
  have hn1 : n ≤ 100000 := by have := okF_len C t d hok; omega
  obtain ⟨ac, cc, rfl, hcc, -⟩ := Rd.shape hC
  obtain ⟨m, hm⟩ : ∃ m, C.length = m := ⟨_, rfl⟩
  have hWS := hidden (WS.refl hb ho hne)
  have hBs : B ≤ w.heap.size := Nat.le_trans hBw (Nat.le_of_lt hb.lt)
  rw [hn] at hqt hrt ⊢
  rw [hm] at hlC hoff hcc hC hWS ⊢
  replace hm := hidden hm
  replace hn := hidden hn
  have hC' := hidden hC
  have hoff' := hidden hoff
  have hrt' := hidden hrt
  have hqt' := hidden hqt
  have hft' := hidden hft
  have hok' := hidden hok
  have hlen' := hidden hlen
  have hoo := hidden ho
  replace ih := hidden ih
  obtain ⟨i0, hi, hz0, hz1, hz2⟩ := info_parts insinfo
  clear hb hC hoff ho hne hrt hqt hft hok hlen
  go_enter Try.func33, Try.ntmps33
  go_wp2_with fail
  go_loopw [10] (fun ix wr => ∃ (k : Nat) (t1 t2 : T) (v1 : Value), k ≤ n ∧ ix = .int .i64 (k : Int) ∧ Hid (t = t1.app t2) ∧ Hid (t1.len = k) ∧ Hid (WS w wr B bw (.slice ac m cc) vo v1 (l ++ flF C t1))) (fun ix _ => (n - intOf ix).toNat)
  case atStart => exact ⟨0, .nil, t, vo, by omega, rfl, rfl, rfl, by show WS _ _ _ _ _ _ _ _; simp only [flF, List.append_nil]; exact hWS.out⟩
  case round =>
    obtain ⟨k, t1, t2, v1, hk, rfl, ht, hk1, hS⟩ := hrel
    obtain ⟨W, hWW⟩ : ∃ Z, Z = wr := ⟨_, rfl⟩
    subst hWW
    by_cases hlt : k < n
    · have hlt' : (k : Int) < (n : Int) := by omega
      obtain ⟨op, f, tt, b, o, r, rfl⟩ : ∃ op f tt b o r, t2 = .cons op f tt b o r := by
        cases t2 with
        | nil => have h1 := hn.out; rw [ht.out, T.app_nil, hk1.out] at h1; omega
        | cons op f tt b o r => exact ⟨_, _, _, _, _, _, rfl⟩
      obtain ⟨l1, hl1e⟩ : ∃ l1, l ++ flF C t1 = l1 := ⟨_, rfl⟩
      rw [hl1e] at hS
      have hoks := okF_app C d t1 _ (by rw [← ht.out]; exact hok'.out)
      obtain ⟨hf0, htt0, hkB, hkS, hkr⟩ := hoks
      obtain ⟨fn, rfl⟩ : ∃ fn : Nat, f = (fn : Int) := ⟨f.toNat, by omega⟩
      obtain ⟨tn, rfl⟩ : ∃ tn : Nat, tt = (tn : Int) := ⟨tt.toNat, by omega⟩
      rw [Int.toNat_natCast, Int.toNat_natCast] at hkB
      obtain ⟨pc, pco, rfl, -, -⟩ := Rd.cells (cs := C.flatMap icell) (w := w) (sz := 2) (by have := hC'.out; unfold Code18 at this; rw [hm.out] at this; exact this) (show 0 < m by have := hkB.1; rw [hm.out] at this; omega)
      obtain ⟨pb, po, hat, hpb, hcell⟩ := Rd.cells hrt'.out (show 0 < n by omega)
      subst hat
      obtain ⟨c1, c2, e12, hF1, hF2⟩ := (show Fr w (fun k => k < B) (t1.app (.cons op fn tn b o r)) ct by rw [← ht.out]; exact hft'.out).split
      have hl1 : c1.length = k * 5 := by rw [hF1.length, hk1.out]
      obtain ⟨vb, vo2, cr, rfl, ⟨cb, hb1, hb2, hb3⟩, ⟨co, ho1, ho2, ho3⟩, -⟩ := hF2
      have hXB : ∀ x ∈ bw :: vo.ownBlock.toList, ¬ x < B := fun x hx hq => by
        simp only [List.mem_cons, Option.mem_toList] at hx
        rcases hx with rfl | hx
        · omega
        · have := (own_lt hoo.out hx).1; omega
      have hX : Chg (bw :: vo.ownBlock.toList) w W := hS.out.chg
      have hbS0 := hidden (show SubAt w (fun k => k < B) vb b from ⟨cb, hb1, hb2, hb3⟩)
      have hoS0 := hidden (show SubAt w (fun k => k < B) vo2 o from ⟨co, ho1, ho2, ho3⟩)
      have hbS : SubAt W (fun k => k < B) vb b := (show SubAt w (fun k => k < B) vb b from ⟨cb, hb1, hb2, hb3⟩).chg hX hXB (fun _ _ h => h)
      have hoS : SubAt W (fun k => k < B) vo2 o := (show SubAt w (fun k => k < B) vo2 o from ⟨co, ho1, ho2, ho3⟩).chg hX hXB (fun _ _ h => h)
      have hpbB : pb < B := hqt'.out pb (by omega) rfl
      have hcc5 : ∀ j (v : Value), j < 5 → [Value.int .i64 op, .int .i64 fn, .int .i64 tn, vb, vo2][j]? = some v → W.cell? ⟨pb, po + (k * 5 + j), none⟩ = some v := fun j v hj hv => by
        have hjl : k * 5 + j < ct.length := by rw [e12]; simp [hl1]; omega
        have h1 := hcell (k * 5 + j) hjl
        have h2 : ct.getD (k * 5 + j) undef = v := by
          rw [e12, List.getD, List.getElem?_append_right (by omega), hl1, show k * 5 + j - k * 5 = j by omega]
          have : (Value.int .i64 op :: .int .i64 fn :: .int .i64 tn :: vb :: vo2 :: cr)[j]? = [Value.int .i64 op, .int .i64 fn, .int .i64 tn, vb, vo2][j]? := by
            match j, hj with
            | 0, _ => rfl
            | 1, _ => rfl
            | 2, _ => rfl
            | 3, _ => rfl
            | 4, _ => rfl
          rw [this, hv]
          rfl
        rw [h2] at h1
        exact hX.cell (fun hm => hXB _ hm hpbB) h1
      have g0 : W.cell? ⟨pb, po + k * 5, none⟩ = some (.int .i64 op) := hcc5 0 _ (by omega) rfl
      have g1 : W.cell? ⟨pb, po + k * 5 + 1, none⟩ = some (.int .i64 fn) := by rw [Nat.add_assoc]; exact hcc5 1 _ (by omega) rfl
      have g2 : W.cell? ⟨pb, po + k * 5 + 2, none⟩ = some (.int .i64 tn) := by rw [Nat.add_assoc]; exact hcc5 2 _ (by omega) rfl
      have g3 : W.cell? ⟨pb, po + k * 5 + 3, none⟩ = some (vb) := by rw [Nat.add_assoc]; exact hcc5 3 _ (by omega) rfl
      have g4 : W.cell? ⟨pb, po + k * 5 + 4, none⟩ = some (vo2) := by rw [Nat.add_assoc]; exact hcc5 4 _ (by omega) rfl
      clear hcc5
      obtain ⟨ab, cbp, rfl, -⟩ := Rd.shape hb1
      obtain ⟨ao, cop, rfl, -⟩ := Rd.shape ho1
      have hbl : b.len ≤ 100000 ∧ o.len ≤ 100000 ∧ l1.length + (flF C (.cons op fn tn b o r)).length ≤ 100000 := by
        rw [← hl1e, List.length_append]
        have h1 := hlen'.out
        rw [ht.out, flF_app, List.length_append] at h1
        by_cases hop : op = -1
        · rcases hkB.2 with ⟨-, h2, h3⟩ | ⟨h2, -⟩
          · omega
          · omega
        · have h2 := okF_len C b _ (hkS hop).1
          have h3 := okF_len C o _ (hkS hop).2
          have h4 : (flF C (.cons op fn tn b o r)).length = 1 + ((flF C b).length + (if o.len = 0 then 0 else 1 + (flF C o).length) + 1) + (flF C r).length := by
            simp only [flF, if_neg hop]
            split <;> simp <;> omega
          refine ⟨by omega, ?_, by omega⟩
          by_cases h5 : o.len = 0
          · omega
          · rw [if_neg h5] at h4; omega
      obtain ⟨hbl1, hbl2, hlt3⟩ := hbl
      obtain ⟨nb, hnb⟩ : ∃ nb, b.len = nb := ⟨_, rfl⟩
      obtain ⟨no, hno⟩ : ∃ no, o.len = no := ⟨_, rfl⟩
      rw [hnb] at hkB hbl1 g3 hbS
      rw [hno] at hkB hbl2 g4 hoS
      have X1 := (Ext.refl W).alloc (.cells #[.int .i64 op, .int .i64 (fn : Int), .int .i64 (tn : Int), .slice ab nb cbp, .slice ao no cop] 47)
      have N1 := Blk.new W [.int .i64 op, .int .i64 (fn : Int), .int .i64 (tn : Int), .slice ab nb cbp, .slice ao no cop] 47
      have S1 := hS.out.ext X1
      obtain ⟨q, hq⟩ : ∃ q, W.heap.size = q := ⟨_, rfl⟩
      have hbq : bw < q := by rw [← hq]; exact hS.out.blk.lt
      rw [hq] at N1
      obtain ⟨W1, hW1⟩ : ∃ W1, W.alloc (.cells #[.int .i64 op, .int .i64 (fn : Int), .int .i64 (tn : Int), .slice ab nb cbp, .slice ao no cop] 47) = W1 := ⟨_, rfl⟩
      rw [hW1] at S1 N1 X1
      have hcd : ∀ (Wx : World) (vx : Value) (lx : List (Int × Int)), WS w Wx B bw (.slice (some ⟨pc, pco, none⟩) m cc) vo vx lx → Code18 Wx (.slice (some ⟨pc, pco, none⟩) m cc) C := fun Wx vx lx h => by
        have h0 := hC'.out
        refine Rd.chg h0 h.chg (fun x hx hn0 e => hXB x hx (hoff'.out (by rw [← hm.out]; exact hn0) x e))
      have hck := check_any C W1 bw (.slice (some ⟨pc, pco, none⟩) m cc) v1 op fn tn nb no cbp cop d ab ao S1.blk (hcd _ _ _ S1) (by rw [hm.out]; exact hlC) hkB hbl1 hbl2 hd
      have b0 := N1.cell 0 _ rfl
      have b1 := N1.cell 1 _ rfl
      have b2 := N1.cell 2 _ rfl
      have b3 := N1.cell 3 _ rfl
      have b4 := N1.cell 4 _ rfl
      have hvq : Hid (∀ k, v1.ownBlock = some k → k ≠ q) := fun k hk => by have := (own_lt hS.out.out hk).2; omega
      replace hl1e := hidden hl1e
      replace hq := hidden hq
      replace hW1 := hidden hW1
      replace S1 := hidden S1
      replace N1 := hidden N1
      replace hck := hidden hck
      replace hbS := hidden hbS
      replace hoS := hidden hoS
      replace hnb := hidden hnb
      replace hno := hidden hno
      replace hkS := hidden hkS
      replace hkB := hidden hkB
      replace hcd := hidden hcd
      replace hXB := hidden hXB
      replace hkr := hidden hkr
      clear hb1 hb2 hb3 ho1 ho2 ho3 hF1 hX X1 hcell hpb
      go_upto_region 3 with fail
      rw [hW1.out, hq.out]
      clear g0 g1 g2 g3 g4
      go_wp2_with fail
      refine hck.out.mono ?_
      clear hck
      rintro e W2 ⟨rfl, X2⟩
      have S2 := S1.out.ext X2
      have N2 := N1.out.ext X2
      clear b0 b1 b2 b3 b4 X2 S1 N1
      have c0 := N2.cell 0 _ rfl
      have c1 := N2.cell 1 _ rfl
      have c2 := N2.cell 2 _ rfl
      have w0 := S2.blk.cell 0 _ rfl
      have w1 := S2.blk.cell 1 _ rfl
      have wf := S2.blk.frozen 1
      replace S2 := hidden S2
      replace N2 := hidden N2
      have HT : Hid (t = (t1.app (.cons op fn tn b o .nil)).app r) := by show _ = _; rw [ht.out, T.app_assoc]; rfl
      have HK : Hid ((t1.app (.cons op fn tn b o .nil)).len = k + 1) := by show _ = _; rw [T.len_app, hk1.out]; rfl
      have hia := hidden hi
      clear hi
      have hpcB : pc < B := hoff'.out (by have := hkB.out.1; rw [hm.out] at this; omega) pc rfl
      have hfm : (fn : Int) < (m : Int) := by have := hkB.out.1; rw [hm.out] at this; omega
      have htm : tn ≤ m := by have := hkB.out.1; rw [hm.out] at this; omega
      by_cases hop : op = -1
      · subst hop
        have HFl : Hid (flF C (.cons (-1) fn tn b o .nil) = (C.drop fn).take (tn - fn)) := by show _ = _; simp [flF]
        have hC2 := hcd.out _ _ _ S2.out
        obtain ⟨x0, x1⟩ := code_at2 hC2 fn (by have := hkB.out.1; omega)
        obtain ⟨u0, u1, hu⟩ : ∃ u0 u1, C.getD fn (0, 0) = (u0, u1) := ⟨_, _, rfl⟩
        rw [hu] at x0 x1
        simp only at x0 x1
        replace hu := hidden hu
        obtain ⟨a', cap', hcut, HRc⟩ := cut_lh (P := Try.prog) (t := 22) Try.underlying22 Try.sizeOf45 (show Rd W2.drew 2 (.slice (some ⟨pc, pco, none⟩) m cc) m (C.flatMap icell) by have := hC2; unfold Code18 at this; rw [hm.out] at this; exact this) fn tn (fn : Int) (tn : Int) rfl rfl (by have := hkB.out.1; omega) (by have := hkB.out.1; rw [hm.out] at this; omega)
        rw [flat_cut] at HRc
        have hcl : ((C.drop fn).take (tn - fn)).length = tn - fn := by have := hkB.out.1; rw [List.length_take, List.length_drop]; omega
        obtain ⟨news, hnews⟩ : ∃ news, (C.drop fn).take (tn - fn) = news := ⟨_, rfl⟩
        rw [hnews] at HRc hcl
        replace hnews := hidden hnews
        have hne0 : 0 < tn - fn := by have := hkB.out.1; omega
        have HS1 : SC W2 bw q (.slice (some ⟨pc, pco, none⟩) m cc) (.int .i64 fn) (.int .i64 tn) pc (pco + fn * 2) (.int .i64 u0) (.int .u32 u1) := ⟨S2.out.blk.cell 0 _ rfl, N2.out.cell 1 _ rfl, N2.out.cell 2 _ rfl, x0, x1⟩
        have w1 := S2.out.blk.cell 1 _ rfl
        have wf := S2.out.blk.frozen 1
        have HNe : v1.ownBlock ≠ some bw := fun e => (S2.out.ne bw e).1 rfl
        have HNq : v1.ownBlock ≠ some q := fun e => by have := hvq.out q e; omega
        have HNc : v1.ownBlock ≠ some pc := fun e => by have h1 := (own_lt S2.out.out e).1; omega
        have HBW : B ≤ W2.heap.size := by have h1 := S2.out.chg.size; omega
        have hll : l1.length ≤ 100000 := by omega
        clear hC2 x0 x1
        go_upto_region 5 with fail
        refine wp_region_held_drew (S := fun W' => SC W' bw q (.slice (some ⟨pc, pco, none⟩) m cc) (.int .i64 fn) (.int .i64 tn) pc (pco + fn * 2) (.int .i64 u0) (.int .u32 u1)) (by kernel_rfl) (HS1.ext (Ext.refl _).drew) (fun HS => ?_)
        refine takeH 0 (.pointer (some ⟨bw, 0, none⟩)) rfl rfl (by kernel_rfl) (by kernel_rfl) (by kernel_rfl) (fun _ _ _ h => h) (by rfl) (fun w' hw' => by go_simp) HS ?_
        simp only [List.setIfInBounds_toArray, List.set_cons_zero, List.set_cons_succ]
        refine takeH 1 (.pointer (some ⟨bw, 0, none⟩)) rfl rfl (by kernel_rfl) (by kernel_rfl) (by kernel_rfl) (fun _ _ _ h => h) (by rfl) (fun w' hw' => by go_simp) HS ?_
        simp only [List.setIfInBounds_toArray, List.set_cons_zero, List.set_cons_succ]
        refine takeH 2 (.pointer (some ⟨bw, 0, none⟩)) rfl rfl (by kernel_rfl) (by kernel_rfl) (by kernel_rfl) (fun _ _ _ h => h) (by rfl) (fun w' hw' => by go_simp) HS ?_
        simp only [List.setIfInBounds_toArray, List.set_cons_zero, List.set_cons_succ]
        refine takeH 3 (.pointer (some ⟨bw, 1, none⟩)) rfl rfl (by kernel_rfl) (by kernel_rfl) (by kernel_rfl) (fun _ _ _ h => h) (by rfl) (fun w' hw' => by go_simp) HS ?_
        simp only [List.setIfInBounds_toArray, List.set_cons_zero, List.set_cons_succ]
        refine takeH 5 (.pointer (some ⟨bw, 0, none⟩)) rfl rfl (by kernel_rfl) (by kernel_rfl) (by kernel_rfl) (fun _ _ _ h => h) (by rfl) (fun w' hw' => by go_simp) HS ?_
        simp only [List.setIfInBounds_toArray, List.set_cons_zero, List.set_cons_succ]
        refine takeH 6 (.pointer (some ⟨bw, 0, none⟩)) rfl rfl (by kernel_rfl) (by kernel_rfl) (by kernel_rfl) (fun _ _ _ h => h) (by rfl) (fun w' hw' => by go_simp) HS ?_
        simp only [List.setIfInBounds_toArray, List.set_cons_zero, List.set_cons_succ]
        refine takeH 7 (.pointer (some ⟨bw, 0, none⟩)) rfl rfl (by kernel_rfl) (by kernel_rfl) (by kernel_rfl) (fun _ _ _ h => h) (by rfl) (fun w' hw' => by go_simp) HS ?_
        simp only [List.setIfInBounds_toArray, List.set_cons_zero, List.set_cons_succ]
        refine takeH 8 (.slice (some ⟨pc, pco, none⟩) m cc) rfl rfl (by kernel_rfl) (by kernel_rfl) (by kernel_rfl) (fun _ _ _ h => h) (by rfl) (fun w' hw' => by obtain ⟨y0, y1, y2, y3, y4⟩ := hw'; go_simp) HS ?_
        simp only [List.setIfInBounds_toArray, List.set_cons_zero, List.set_cons_succ]
        refine takeH 9 (.pointer (some ⟨q, 1, none⟩)) rfl rfl (by kernel_rfl) (by kernel_rfl) (by kernel_rfl) (fun _ _ _ h => h) (by rfl) (fun w' hw' => by go_simp) HS ?_
        simp only [List.setIfInBounds_toArray, List.set_cons_zero, List.set_cons_succ]
        refine takeH 10 (.int .i64 (fn : Int)) rfl rfl (by kernel_rfl) (by kernel_rfl) (by kernel_rfl) (fun _ _ _ h => h) (by rfl) (fun w' hw' => by obtain ⟨y0, y1, y2, y3, y4⟩ := hw'; go_simp) HS ?_
        simp only [List.setIfInBounds_toArray, List.set_cons_zero, List.set_cons_succ]
        refine takeH 11 (.pointer (some ⟨q, 2, none⟩)) rfl rfl (by kernel_rfl) (by kernel_rfl) (by kernel_rfl) (fun _ _ _ h => h) (by rfl) (fun w' hw' => by go_simp) HS ?_
        simp only [List.setIfInBounds_toArray, List.set_cons_zero, List.set_cons_succ]
        refine takeH 12 (.int .i64 (tn : Int)) rfl rfl (by kernel_rfl) (by kernel_rfl) (by kernel_rfl) (fun _ _ _ h => h) (by rfl) (fun w' hw' => by obtain ⟨y0, y1, y2, y3, y4⟩ := hw'; go_simp) HS ?_
        simp only [List.setIfInBounds_toArray, List.set_cons_zero, List.set_cons_succ]
        refine takeH 13 (.slice a' (tn - fn) cap') rfl rfl (by kernel_rfl) (by kernel_rfl) (by kernel_rfl) (fun _ _ _ h => h) (by rfl) (fun w' hw' => by go_simp) HS ?_
        simp only [List.setIfInBounds_toArray, List.set_cons_zero, List.set_cons_succ]
        refine wpAnyH_all (rs := [4]) (by kernel_rfl) (by simp) ?_
        intro i hi
        obtain rfl : i = 4 := by simpa using hi
        refine wpOp_value 4 (v1) rfl rfl (by rfl) (w' := W2.drew) (by go_simp) ⟨HS, ?_⟩
        simp only [List.setIfInBounds_toArray, List.set_cons_zero, List.set_cons_succ]
        have XA : Ext W2 W2.drew := (Ext.refl W2).drew
        have HO := own_ext S2.out.out XA
        have SA := HS1.ext XA
        refine wpAnyH_all (rs := [14]) (by kernel_rfl) (by simp) ?_
        intro i hi
        obtain rfl : i = 14 := by simpa using hi
        refine wpOp_append 14 rfl rfl (by rfl) _ _ 22 rfl B 45 i0 (.agg #[.int .i64 0, .int .u32 0]) 2 16 Try.underlying22 hia.out hz0 hz1 hz2 rfl (by decide) v1 l1.length (l1.flatMap icell) (by rfl) HO a' (tn - fn) cap' (news.flatMap icell) (by rfl) HRc (icell_one news) (by unfold maxLen; omega) (by omega) (Nat.le_trans HBW XA.size) (by omega) ?_
        intro v' w4 hown4 hgrow4 hat4
        obtain ⟨a4, k4, rfl, -⟩ := own_shape hown4
        have SB := SA.grown hgrow4 HNe HNq HNc
        have q1 := (S2.out.blk.ext XA).grown hgrow4 HNe
        have q2 := q1.cell 1 _ rfl
        have q3 := q1.frozen 1
        refine ⟨SB, ?_⟩
        simp only [List.setIfInBounds_toArray, List.set_cons_zero, List.set_cons_succ]
        refine takeH 15 (.pointer (some ⟨bw, 0, none⟩)) rfl rfl (by kernel_rfl) (by kernel_rfl) (by kernel_rfl) (fun _ _ _ h => h) (by rfl) (fun w' hw' => by go_simp) SB ?_
        simp only [List.setIfInBounds_toArray, List.set_cons_zero, List.set_cons_succ]
        refine takeH 16 (.pointer (some ⟨bw, 1, none⟩)) rfl rfl (by kernel_rfl) (by kernel_rfl) (by kernel_rfl) (fun _ _ _ h => h) (by rfl) (fun w' hw' => by go_simp) SB ?_
        simp only [List.setIfInBounds_toArray, List.set_cons_zero, List.set_cons_succ]
        refine storeH 17 rfl rfl (by kernel_rfl) (by rfl) (w' := w4.setCell ⟨bw, 1, none⟩ (.slice a4 (l1.length + (tn - fn)) k4)) (by go_simp) (SB.set (by omega) (by omega) _) ?_
        refine wpAnyH_done (by kernel_rfl) ?_ _
        have hown5 : OwnC w4 B (.slice a4 (l1.length + (tn - fn)) k4) (l1 ++ news) := by
          unfold OwnC
          rw [List.length_append, List.flatMap_append, hcl]
          exact hown4
        have S3 := (S2.out.ext XA).trans (WS.push (S2.out.blk.ext XA) HNe hown5 hgrow4 (by rcases hat4 with h | h; exact Or.inl h; exact Or.inr (fun k hk => by rw [h] at hk; cases hk; exact Nat.le_refl _)) (l := l1))
        have N3 := ((N2.out.ext XA).grown hgrow4 HNq).set_other (c := bw) (i := 1) (by omega) (.slice a4 (l1.length + (tn - fn)) k4)
        have hvq2 : ∀ k, (Value.slice a4 (l1.length + (tn - fn)) k4).ownBlock = some k → k ≠ q := fun k hk => by
          rcases hat4 with h | h
          · rw [h] at hk; have := hvq.out k hk; omega
          · rw [h] at hk; cases hk; have := N2.out.lt; have h2 := XA.size; omega
        go_wp2_with fail
        go_roundw
        case rel => exact ⟨k + 1, t1.app (.cons (-1) fn tn b o .nil), r, _, by omega, by go_num, HT.out, HK.out, hidden (by rw [flF_app, ← List.append_assoc, hl1e.out, HFl.out]; exact (by rw [hnews.out]; exact S3))⟩
        case measure => simp [intOf]; omega
      · have hop' : (op == -1) = false := by simp; exact hop
        obtain ⟨d8, hfo, hto⟩ : d < 8 ∧ opAt C fn = op ∧ opAt C (tn - 1) = 31 := by rcases hkB.out.2 with ⟨h, -⟩ | ⟨-, h⟩; exact absurd h hop; exact h
        have hkSb := hidden (hkS.out hop).1
        have hkSo := hidden (hkS.out hop).2
        have hflen : (flF C (.cons op fn tn b o r)).length = 1 + ((flF C b).length + (if no = 0 then 0 else 1 + (flF C o).length) + 1) + (flF C r).length := by
          simp only [flF, if_neg hop, hno.out]
          split <;> simp <;> omega
        rw [hflen] at hlt3
        clear hflen
        have HFl : Hid (flF C (.cons op fn tn b o .nil) = C.getD fn (0, 0) :: (flF C b ++ (if no = 0 then [] else (28, 0) :: flF C o) ++ [C.getD (tn - 1) (0, 0)])) := by show _ = _; simp only [flF, if_neg hop, hno.out, Int.toNat_natCast, List.append_nil]
        go_upto_region 6 with fail
        go_cut [10] from 38 to 99 (fun ix wx => ∃ (wz : World) (vz : Value), wx = wz ∧ ix = .int .i64 (k : Int) ∧ Hid (WS w wz B bw (.slice (some ⟨pc, pco, none⟩) m cc) vo vz (l1 ++ [C.getD fn (0, 0)])) ∧ Hid (Blk wz q 47 [.int .i64 op, .int .i64 fn, .int .i64 tn, .slice ab nb cbp, .slice ao no cop]) ∧ Hid (∀ k, vz.ownBlock = some k → k ≠ q))
        case first =>
          have hC2 := hcd.out _ _ _ S2.out
          obtain ⟨x0, x1⟩ := code_at2 hC2 fn (by have := hkB.out.1; omega)
          obtain ⟨u0, u1, hu⟩ : ∃ u0 u1, C.getD fn (0, 0) = (u0, u1) := ⟨_, _, rfl⟩
          rw [hu] at x0 x1
          simp only at x0 x1
          replace hu := hidden hu
          have HS1 : SC W2 bw q (.slice (some ⟨pc, pco, none⟩) m cc) (.int .i64 fn) (.int .i64 tn) pc (pco + fn * 2) (.int .i64 u0) (.int .u32 u1) := ⟨S2.out.blk.cell 0 _ rfl, N2.out.cell 1 _ rfl, N2.out.cell 2 _ rfl, x0, x1⟩
          have w1 := S2.out.blk.cell 1 _ rfl
          have wf := S2.out.blk.frozen 1
          have HNe : v1.ownBlock ≠ some bw := fun e => (S2.out.ne bw e).1 rfl
          have HNq : v1.ownBlock ≠ some q := fun e => by have := hvq.out q e; omega
          have HNc : v1.ownBlock ≠ some pc := fun e => by have h1 := (own_lt S2.out.out e).1; omega
          have HBW : B ≤ W2.heap.size := by have h1 := S2.out.chg.size; omega
          have hll : l1.length ≤ 100000 := by omega
          clear hC2 x0 x1
          refine wp_region_held_drew (S := fun W' => SC W' bw q (.slice (some ⟨pc, pco, none⟩) m cc) (.int .i64 fn) (.int .i64 tn) pc (pco + fn * 2) (.int .i64 u0) (.int .u32 u1)) (by kernel_rfl) (HS1.ext (Ext.refl _).drew) (fun HS => ?_)
          refine takeH 0 (.pointer (some ⟨bw, 0, none⟩)) rfl rfl (by kernel_rfl) (by kernel_rfl) (by kernel_rfl) (fun _ _ _ h => h) (by rfl) (fun w' hw' => by go_simp) HS ?_
          simp only [List.setIfInBounds_toArray, List.set_cons_zero, List.set_cons_succ]
          refine takeH 1 (.pointer (some ⟨bw, 0, none⟩)) rfl rfl (by kernel_rfl) (by kernel_rfl) (by kernel_rfl) (fun _ _ _ h => h) (by rfl) (fun w' hw' => by go_simp) HS ?_
          simp only [List.setIfInBounds_toArray, List.set_cons_zero, List.set_cons_succ]
          refine takeH 2 (.pointer (some ⟨bw, 0, none⟩)) rfl rfl (by kernel_rfl) (by kernel_rfl) (by kernel_rfl) (fun _ _ _ h => h) (by rfl) (fun w' hw' => by go_simp) HS ?_
          simp only [List.setIfInBounds_toArray, List.set_cons_zero, List.set_cons_succ]
          refine takeH 3 (.pointer (some ⟨bw, 1, none⟩)) rfl rfl (by kernel_rfl) (by kernel_rfl) (by kernel_rfl) (fun _ _ _ h => h) (by rfl) (fun w' hw' => by go_simp) HS ?_
          simp only [List.setIfInBounds_toArray, List.set_cons_zero, List.set_cons_succ]
          refine takeH 5 (.pointer (some ⟨bw, 0, none⟩)) rfl rfl (by kernel_rfl) (by kernel_rfl) (by kernel_rfl) (fun _ _ _ h => h) (by rfl) (fun w' hw' => by go_simp) HS ?_
          simp only [List.setIfInBounds_toArray, List.set_cons_zero, List.set_cons_succ]
          refine takeH 6 (.pointer (some ⟨bw, 0, none⟩)) rfl rfl (by kernel_rfl) (by kernel_rfl) (by kernel_rfl) (fun _ _ _ h => h) (by rfl) (fun w' hw' => by go_simp) HS ?_
          simp only [List.setIfInBounds_toArray, List.set_cons_zero, List.set_cons_succ]
          refine takeH 7 (.pointer (some ⟨bw, 0, none⟩)) rfl rfl (by kernel_rfl) (by kernel_rfl) (by kernel_rfl) (fun _ _ _ h => h) (by rfl) (fun w' hw' => by go_simp) HS ?_
          simp only [List.setIfInBounds_toArray, List.set_cons_zero, List.set_cons_succ]
          refine takeH 8 (.slice (some ⟨pc, pco, none⟩) m cc) rfl rfl (by kernel_rfl) (by kernel_rfl) (by kernel_rfl) (fun _ _ _ h => h) (by rfl) (fun w' hw' => by obtain ⟨y0, y1, y2, y3, y4⟩ := hw'; go_simp) HS ?_
          simp only [List.setIfInBounds_toArray, List.set_cons_zero, List.set_cons_succ]
          refine takeH 9 (.pointer (some ⟨q, 1, none⟩)) rfl rfl (by kernel_rfl) (by kernel_rfl) (by kernel_rfl) (fun _ _ _ h => h) (by rfl) (fun w' hw' => by go_simp) HS ?_
          simp only [List.setIfInBounds_toArray, List.set_cons_zero, List.set_cons_succ]
          refine takeH 10 (.int .i64 (fn : Int)) rfl rfl (by kernel_rfl) (by kernel_rfl) (by kernel_rfl) (fun _ _ _ h => h) (by rfl) (fun w' hw' => by obtain ⟨y0, y1, y2, y3, y4⟩ := hw'; go_simp) HS ?_
          simp only [List.setIfInBounds_toArray, List.set_cons_zero, List.set_cons_succ]
          refine takeH 11 (.pointer (some ⟨pc, pco + fn * 2, none⟩)) rfl rfl (by kernel_rfl) (by kernel_rfl) (by kernel_rfl) (fun _ _ _ h => h) (by rfl) (fun w' hw' => by go_simp) HS ?_
          simp only [List.setIfInBounds_toArray, List.set_cons_zero, List.set_cons_succ]
          refine takeH 12 (.agg #[.int .i64 u0, .int .u32 u1]) rfl rfl (by kernel_rfl) (by kernel_rfl) (by kernel_rfl) (fun _ _ _ h => h) (by rfl) (fun w' hw' => by obtain ⟨y0, y1, y2, y3, y4⟩ := hw'; go_simp) HS ?_
          simp only [List.setIfInBounds_toArray, List.set_cons_zero, List.set_cons_succ]
          refine wpAnyH_all (rs := [4, 13]) (by kernel_rfl) (by simp) ?_
          intro i hi
          rcases List.mem_cons.1 hi with rfl | hi
          · refine wpOp_value 4 (v1) rfl rfl (by rfl) (w' := W2.drew) (by go_simp) ⟨HS, ?_⟩
            simp only [List.setIfInBounds_toArray, List.set_cons_zero, List.set_cons_succ]
            refine wpAnyH_all (rs := [13]) (by kernel_rfl) (by simp) ?_
            intro i hi
            obtain rfl : i = 13 := by simpa using hi
            refine wpOp_value 13 (.slice (some ⟨W2.heap.size, 0, none⟩) 1 1) rfl rfl (by rfl) (w' := (W2.drew.alloc (.cells #[.int .i64 u0, .int .u32 u1] 45))) (by go_simp) ⟨HS1.ext (((Ext.refl _).drew).alloc _), ?_⟩
            simp only [List.setIfInBounds_toArray, List.set_cons_zero, List.set_cons_succ]
            have XA : Ext W2 (W2.drew.alloc (.cells #[.int .i64 u0, .int .u32 u1] 45)) := ((Ext.refl W2).drew).alloc _
            have HO := own_ext S2.out.out XA
            have SA := HS1.ext XA
            refine wpAnyH_all (rs := [14]) (by kernel_rfl) (by simp) ?_
            intro i hi
            obtain rfl : i = 14 := by simpa using hi
            refine wpOp_append 14 rfl rfl (by rfl) _ _ 22 rfl B 45 i0 (.agg #[.int .i64 0, .int .u32 0]) 2 16 Try.underlying22 hia.out hz0 hz1 hz2 rfl (by decide) v1 l1.length (l1.flatMap icell) (by rfl) HO (some ⟨W2.heap.size, 0, none⟩) 1 1 [.int .i64 u0, .int .u32 u1] (by rfl) (rd_new1 W2.drew (.int .i64 u0) (.int .u32 u1) 45) (by simp [Value.oneCell']) (by unfold maxLen; omega) (by omega) (Nat.le_trans HBW XA.size) (by omega) ?_
            intro v' w4 hown4 hgrow4 hat4
            obtain ⟨a4, k4, rfl, -⟩ := own_shape hown4
            have SB := SA.grown hgrow4 HNe HNq HNc
            have q1 := (S2.out.blk.ext XA).grown hgrow4 HNe
            have q2 := q1.cell 1 _ rfl
            have q3 := q1.frozen 1
            refine ⟨SB, ?_⟩
            simp only [List.setIfInBounds_toArray, List.set_cons_zero, List.set_cons_succ]
            refine takeH 15 (.pointer (some ⟨bw, 0, none⟩)) rfl rfl (by kernel_rfl) (by kernel_rfl) (by kernel_rfl) (fun _ _ _ h => h) (by rfl) (fun w' hw' => by go_simp) SB ?_
            simp only [List.setIfInBounds_toArray, List.set_cons_zero, List.set_cons_succ]
            refine takeH 16 (.pointer (some ⟨bw, 1, none⟩)) rfl rfl (by kernel_rfl) (by kernel_rfl) (by kernel_rfl) (fun _ _ _ h => h) (by rfl) (fun w' hw' => by go_simp) SB ?_
            simp only [List.setIfInBounds_toArray, List.set_cons_zero, List.set_cons_succ]
            refine storeH 17 rfl rfl (by kernel_rfl) (by rfl) (w' := w4.setCell ⟨bw, 1, none⟩ (.slice a4 (l1.length + 1) k4)) (by go_simp) (SB.set (by omega) (by omega) _) ?_
            refine wpAnyH_done (by kernel_rfl) ?_ _
            have hown5 : OwnC w4 B (.slice a4 (l1.length + 1) k4) (l1 ++ [(u0, u1)]) := by
              unfold OwnC
              rw [List.length_append, List.flatMap_append]
              exact hown4
            have S3 := (S2.out.ext XA).trans (WS.push (S2.out.blk.ext XA) HNe hown5 hgrow4 (by rcases hat4 with h | h; exact Or.inl h; exact Or.inr (fun k hk => by rw [h] at hk; cases hk; exact Nat.le_refl _)) (l := l1))
            have N3 := ((N2.out.ext XA).grown hgrow4 HNq).set_other (c := bw) (i := 1) (by omega) (.slice a4 (l1.length + 1) k4)
            have hvq2 : ∀ k, (Value.slice a4 (l1.length + 1) k4).ownBlock = some k → k ≠ q := fun k hk => by
              rcases hat4 with h | h
              · rw [h] at hk; have := hvq.out k hk; omega
              · rw [h] at hk; cases hk; have := N2.out.lt; have h2 := XA.size; omega
            go_wp2_with fail
            go_meet
            rw [hu.out]
            exact ⟨_, _, rfl, rfl, S3, N3, hvq2⟩
          · obtain rfl : i = 13 := by simpa using hi
            have w1' := ((Ext.refl W2).alloc (.cells #[.int .i64 u0, .int .u32 u1] 45)).cell w1
            refine wpOp_value 13 (.slice (some ⟨W2.heap.size, 0, none⟩) 1 1) rfl rfl (by rfl) (w' := (W2.drew.alloc (.cells #[.int .i64 u0, .int .u32 u1] 45))) (by go_simp) ⟨HS1.ext (((Ext.refl _).drew).alloc _), ?_⟩
            simp only [List.setIfInBounds_toArray, List.set_cons_zero, List.set_cons_succ]
            refine wpAnyH_all (rs := [4]) (by kernel_rfl) (by simp) ?_
            intro i hi
            obtain rfl : i = 4 := by simpa using hi
            refine wpOp_value 4 (v1) rfl rfl (by rfl) (w' := (W2.drew.alloc (.cells #[.int .i64 u0, .int .u32 u1] 45))) (by go_simp) ⟨HS1.ext (((Ext.refl _).drew).alloc _), ?_⟩
            simp only [List.setIfInBounds_toArray, List.set_cons_zero, List.set_cons_succ]
            have XA : Ext W2 (W2.drew.alloc (.cells #[.int .i64 u0, .int .u32 u1] 45)) := ((Ext.refl W2).drew).alloc _
            have HO := own_ext S2.out.out XA
            have SA := HS1.ext XA
            refine wpAnyH_all (rs := [14]) (by kernel_rfl) (by simp) ?_
            intro i hi
            obtain rfl : i = 14 := by simpa using hi
            refine wpOp_append 14 rfl rfl (by rfl) _ _ 22 rfl B 45 i0 (.agg #[.int .i64 0, .int .u32 0]) 2 16 Try.underlying22 hia.out hz0 hz1 hz2 rfl (by decide) v1 l1.length (l1.flatMap icell) (by rfl) HO (some ⟨W2.heap.size, 0, none⟩) 1 1 [.int .i64 u0, .int .u32 u1] (by rfl) (rd_new1 W2.drew (.int .i64 u0) (.int .u32 u1) 45) (by simp [Value.oneCell']) (by unfold maxLen; omega) (by omega) (Nat.le_trans HBW XA.size) (by omega) ?_
            intro v' w4 hown4 hgrow4 hat4
            obtain ⟨a4, k4, rfl, -⟩ := own_shape hown4
            have SB := SA.grown hgrow4 HNe HNq HNc
            have q1 := (S2.out.blk.ext XA).grown hgrow4 HNe
            have q2 := q1.cell 1 _ rfl
            have q3 := q1.frozen 1
            refine ⟨SB, ?_⟩
            simp only [List.setIfInBounds_toArray, List.set_cons_zero, List.set_cons_succ]
            refine takeH 15 (.pointer (some ⟨bw, 0, none⟩)) rfl rfl (by kernel_rfl) (by kernel_rfl) (by kernel_rfl) (fun _ _ _ h => h) (by rfl) (fun w' hw' => by go_simp) SB ?_
            simp only [List.setIfInBounds_toArray, List.set_cons_zero, List.set_cons_succ]
            refine takeH 16 (.pointer (some ⟨bw, 1, none⟩)) rfl rfl (by kernel_rfl) (by kernel_rfl) (by kernel_rfl) (fun _ _ _ h => h) (by rfl) (fun w' hw' => by go_simp) SB ?_
            simp only [List.setIfInBounds_toArray, List.set_cons_zero, List.set_cons_succ]
            refine storeH 17 rfl rfl (by kernel_rfl) (by rfl) (w' := w4.setCell ⟨bw, 1, none⟩ (.slice a4 (l1.length + 1) k4)) (by go_simp) (SB.set (by omega) (by omega) _) ?_
            refine wpAnyH_done (by kernel_rfl) ?_ _
            have hown5 : OwnC w4 B (.slice a4 (l1.length + 1) k4) (l1 ++ [(u0, u1)]) := by
              unfold OwnC
              rw [List.length_append, List.flatMap_append]
              exact hown4
            have S3 := (S2.out.ext XA).trans (WS.push (S2.out.blk.ext XA) HNe hown5 hgrow4 (by rcases hat4 with h | h; exact Or.inl h; exact Or.inr (fun k hk => by rw [h] at hk; cases hk; exact Nat.le_refl _)) (l := l1))
            have N3 := ((N2.out.ext XA).grown hgrow4 HNq).set_other (c := bw) (i := 1) (by omega) (.slice a4 (l1.length + 1) k4)
            have hvq2 : ∀ k, (Value.slice a4 (l1.length + 1) k4).ownBlock = some k → k ≠ q := fun k hk => by
              rcases hat4 with h | h
              · rw [h] at hk; have := hvq.out k hk; omega
              · rw [h] at hk; cases hk; have := N2.out.lt; have h2 := XA.size; omega
            go_wp2_with fail
            go_meet
            rw [hu.out]
            exact ⟨_, _, rfl, rfl, S3, N3, hvq2⟩
        case rest =>
          obtain ⟨W3, v2, hW3, rfl, S3, N3, hvq3⟩ := hcut
          rw [hW3]
          clear hW3 hvq S2 N2
          have b3 := N3.out.cell 3 _ rfl
          have hX3 := S3.out.chg
          have hbW := (show SubAt w (fun k => k < B) (.slice ab nb cbp) b from by have := hbS0.out; rw [hnb.out] at this; exact this).chg hX3 hXB.out (fun _ _ h => h)
          have hcall := ih.out b (by rw [ht.out, nodes_app]; simp only [nodes]; omega) W3 B bw (.slice (some ⟨pc, pco, none⟩) m cc) v2 (.slice ab nb cbp) (l1 ++ [C.getD fn (0, 0)]) (d + 1) S3.out.blk (hcd.out _ _ _ S3.out) (by rw [hm.out]; exact hoff'.out) S3.out.out (fun e => (S3.out.ne bw e).1 rfl) hBw hbW hkSb.out (by omega) (by simp; omega)
          rw [show ((d + 1 : Nat) : Int) = (d : Int) + 1 by omega] at hcall
          replace hcall := hidden hcall
          clear hX3 hbW
          have hwd : IntKind.i64.wrap ((d : Int) + 1) = (d : Int) + 1 := IntWalk.i64_in _ (by omega)
          go_wp2_with fail
          refine hcall.out.mono ?_
          clear hcall b3
          rintro e W4 ⟨rfl, v3, hS4⟩
          have S4 := S3.out.trans hS4
          have N4 := N3.out.chg hS4.chg (fun hx => by simp only [List.mem_cons, Option.mem_toList] at hx; rcases hx with h | h; omega; exact hvq3.out q h rfl)
          have hvq4 : Hid (∀ k, v3.ownBlock = some k → k ≠ q) := fun k hk => by
            rcases (hS4.ne k hk).2 with h | h
            · exact hvq3.out k h
            · have := N3.out.lt; omega
          have b4 := N4.cell 4 _ rfl
          obtain ⟨l4, hl4⟩ : ∃ l4, l1 ++ [C.getD fn (0, 0)] ++ flF C b = l4 := ⟨_, rfl⟩
          have hl4l : l4.length + (if no = 0 then 0 else 1 + (flF C o).length) + 1 ≤ 100000 := by rw [← hl4]; simp; omega
          rw [hl4] at S4
          replace hl4 := hidden hl4
          replace S4 := hidden S4
          replace N4 := hidden N4
          clear hS4 S3 N3 hvq3
          go_upto_if 64 with fail
          go_cut [10] from 64 to 99 (fun ix wx => ∃ (wz : World) (vz : Value), wx = wz ∧ ix = .int .i64 (k : Int) ∧ Hid (WS w wz B bw (.slice (some ⟨pc, pco, none⟩) m cc) vo vz (l4 ++ (if no = 0 then [] else (28, 0) :: flF C o))) ∧ Hid (Blk wz q 47 [.int .i64 op, .int .i64 fn, .int .i64 tn, .slice ab nb cbp, .slice ao no cop]) ∧ Hid (∀ k, vz.ownBlock = some k → k ≠ q))
          case first =>
            by_cases hno0 : no = 0
            · subst hno0
              go_wp2_with fail
              go_meet
              exact ⟨W4, v3, rfl, rfl, hidden (by simpa using S4.out), N4, hvq4⟩
            · have hno1 : (0 : Int) < (no : Int) := by omega
              have w0 := S4.out.blk.cell 0 _ rfl
              have w1 := S4.out.blk.cell 1 _ rfl
              have wf := S4.out.blk.frozen 1
              rw [if_neg hno0] at hl4l
              have HNe : v3.ownBlock ≠ some bw := fun e => (S4.out.ne bw e).1 rfl
              have XA : Ext W4 (W4.alloc (.cells #[.int .i64 28, .int .u32 0] 45)) := (Ext.refl W4).alloc _
              have HBW : B ≤ W4.heap.size := by have := S4.out.chg.size; omega
              have HO := own_ext S4.out.out XA
              replace HNe := hidden HNe
              replace HO := hidden HO
              have HNq := hidden (show v3.ownBlock ≠ some q from fun e => hvq4.out q e rfl)
              go_upto_region 10 with (at_builtin; refine wpList_append_rd (by rfl) _ _ 22 (by rfl) B 45 i0 (.agg #[.int .i64 0, .int .u32 0]) 2 16 Try.underlying22 hia.out hz0 hz1 hz2 rfl (by decide) v3 l4.length (l4.flatMap icell) (by rfl) HO.out (some ⟨W4.heap.size, 0, none⟩) 1 1 [.int .i64 28, .int .u32 0] (by rfl) (rd_new1 W4 (.int .i64 28) (.int .u32 0) 45) (by simp [Value.oneCell']) (by unfold maxLen; omega) (by omega) (Nat.le_trans HBW XA.size) ?_; intro v' w4 hown4 hgrow4 hat4; obtain ⟨a4, k4, rfl, -⟩ := own_shape hown4; have q1 := (S4.out.blk.ext XA).grown hgrow4 HNe.out; have q2 := q1.cell 1 _ rfl; have q3 := q1.frozen 1)
              have hown5 : OwnC w4 B (.slice a4 (l4.length + 1) k4) (l4 ++ [(28, 0)]) := by
                unfold OwnC
                rw [List.length_append, List.flatMap_append]
                exact hown4
              have S6 := (S4.out.ext XA).trans (WS.push (S4.out.blk.ext XA) HNe.out hown5 hgrow4 (by rcases hat4 with h | h; exact Or.inl h; exact Or.inr (fun k hk => by rw [h] at hk; cases hk; exact Nat.le_refl _)) (l := l1))
              have N6 := ((N4.out.ext XA).grown hgrow4 HNq.out).set_other (c := bw) (i := 1) (by omega) (.slice a4 (l4.length + 1) k4)
              have hvq6 : ∀ k, (Value.slice a4 (l4.length + 1) k4).ownBlock = some k → k ≠ q := fun k hk => by
                rcases hat4 with h | h
                · rw [h] at hk; exact hvq4.out k hk
                · rw [h] at hk; cases hk; have := N4.out.lt; have h2 := XA.size; omega
              obtain ⟨v6, hv6⟩ : ∃ v6, Value.slice a4 (l4.length + 1) k4 = v6 := ⟨_, rfl⟩
              rw [hv6] at S6 N6 hvq6
              obtain ⟨W6, hW6⟩ : ∃ W6, w4.setCell ⟨bw, 1, none⟩ v6 = W6 := ⟨_, rfl⟩
              rw [hW6] at S6 N6
              have b6 := N6.cell 4 _ rfl
              have hoW := (show SubAt w (fun k => k < B) (.slice ao no cop) o from by have := hoS0.out; rw [hno.out] at this; exact this).chg S6.chg hXB.out (fun _ _ h => h)
              have hcall := ih.out o (by rw [ht.out, nodes_app]; simp only [nodes]; omega) W6 B bw (.slice (some ⟨pc, pco, none⟩) m cc) v6 (.slice ao no cop) (l4 ++ [(28, 0)]) (d + 1) S6.blk (hcd.out _ _ _ S6) (by rw [hm.out]; exact hoff'.out) S6.out (fun e => (S6.ne bw e).1 rfl) hBw hoW hkSo.out (by omega) (by simp; omega)
              rw [show ((d + 1 : Nat) : Int) = (d : Int) + 1 by omega] at hcall
              replace hcall := hidden hcall
              replace S6 := hidden S6
              replace N6 := hidden N6
              rw [hv6, hW6]
              clear hown4 hgrow4 hat4 hown5 q1 q2 q3 hoW w0 w1 wf XA HBW hv6 hW6 b4
              go_wp2_with fail
              refine hcall.out.mono ?_
              clear hcall b6
              rintro e W7 ⟨rfl, v7, hS7⟩
              have S7 := S6.out.trans hS7
              have N7 := N6.out.chg hS7.chg (fun hx => by simp only [List.mem_cons, Option.mem_toList] at hx; rcases hx with h | h; omega; exact hvq6 q h rfl)
              have hvq7 : ∀ k, v7.ownBlock = some k → k ≠ q := fun k hk => by
                rcases (hS7.ne k hk).2 with h | h
                · exact hvq6 k h
                · have := N6.out.lt; omega
              clear hS7
              replace S7 := hidden S7
              go_wp2_with fail
              go_meet
              exact ⟨W7, v7, rfl, rfl, hidden (by rw [if_neg hno0]; simpa using S7.out), N7, hvq7⟩
          case rest =>
            obtain ⟨W5, v4, hW5, rfl, S5, N5, hvq5⟩ := hcut
            rw [hW5]
            clear hW5 hvq4 S4 N4 b4
            obtain ⟨l5, hl5⟩ : ∃ l5, l4 ++ (if no = 0 then [] else (28, 0) :: flF C o) = l5 := ⟨_, rfl⟩
            have hl5l : l5.length ≤ 100000 := by rw [← hl5]; by_cases h0 : no = 0 <;> simp [h0] at hl4l ⊢ <;> omega
            rw [hl5] at S5
            replace hl5 := hidden hl5
            have hvq := hvq5
            have hwt : IntKind.i64.wrap ((tn : Int) - 1) = (tn : Int) - 1 := IntWalk.i64_in _ (by have := hkB.out.1; rw [hm.out] at this; omega)
            have ht1 : (0 : Int) ≤ (tn : Int) - 1 := by have := hkB.out.1; omega
            have ht2 : (tn : Int) - 1 < (m : Int) := by have := hkB.out.1; rw [hm.out] at this; omega
            have ht3 : ((tn : Int) - 1).toNat = tn - 1 := by omega
            have ht4 : ¬ ((tn : Int) < 1) := by omega
            have hC2 := hcd.out _ _ _ S5.out
            obtain ⟨x0, x1⟩ := code_at2 hC2 (tn - 1) (by have := hkB.out.1; omega)
            obtain ⟨u0, u1, hu⟩ : ∃ u0 u1, C.getD (tn - 1) (0, 0) = (u0, u1) := ⟨_, _, rfl⟩
            rw [hu] at x0 x1
            simp only at x0 x1
            replace hu := hidden hu
            have HS1 : SC W5 bw q (.slice (some ⟨pc, pco, none⟩) m cc) (.int .i64 fn) (.int .i64 tn) pc (pco + (tn - 1) * 2) (.int .i64 u0) (.int .u32 u1) := ⟨S5.out.blk.cell 0 _ rfl, N5.out.cell 1 _ rfl, N5.out.cell 2 _ rfl, x0, x1⟩
            have w1 := S5.out.blk.cell 1 _ rfl
            have wf := S5.out.blk.frozen 1
            have HNe : v4.ownBlock ≠ some bw := fun e => (S5.out.ne bw e).1 rfl
            have HNq : v4.ownBlock ≠ some q := fun e => by have := hvq.out q e; omega
            have HNc : v4.ownBlock ≠ some pc := fun e => by have h1 := (own_lt S5.out.out e).1; omega
            have HBW : B ≤ W5.heap.size := by have h1 := S5.out.chg.size; omega
            have hll : l5.length ≤ 100000 := by omega
            clear hC2 x0 x1
            go_upto_region 11 with fail
            refine wp_region_held_drew (S := fun W' => SC W' bw q (.slice (some ⟨pc, pco, none⟩) m cc) (.int .i64 fn) (.int .i64 tn) pc (pco + (tn - 1) * 2) (.int .i64 u0) (.int .u32 u1)) (by kernel_rfl) (HS1.ext (Ext.refl _).drew) (fun HS => ?_)
            refine takeH 0 (.pointer (some ⟨bw, 0, none⟩)) rfl rfl (by kernel_rfl) (by kernel_rfl) (by kernel_rfl) (fun _ _ _ h => h) (by rfl) (fun w' hw' => by go_simp) HS ?_
            simp only [List.setIfInBounds_toArray, List.set_cons_zero, List.set_cons_succ]
            refine takeH 1 (.pointer (some ⟨bw, 0, none⟩)) rfl rfl (by kernel_rfl) (by kernel_rfl) (by kernel_rfl) (fun _ _ _ h => h) (by rfl) (fun w' hw' => by go_simp) HS ?_
            simp only [List.setIfInBounds_toArray, List.set_cons_zero, List.set_cons_succ]
            refine takeH 2 (.pointer (some ⟨bw, 0, none⟩)) rfl rfl (by kernel_rfl) (by kernel_rfl) (by kernel_rfl) (fun _ _ _ h => h) (by rfl) (fun w' hw' => by go_simp) HS ?_
            simp only [List.setIfInBounds_toArray, List.set_cons_zero, List.set_cons_succ]
            refine takeH 3 (.pointer (some ⟨bw, 1, none⟩)) rfl rfl (by kernel_rfl) (by kernel_rfl) (by kernel_rfl) (fun _ _ _ h => h) (by rfl) (fun w' hw' => by go_simp) HS ?_
            simp only [List.setIfInBounds_toArray, List.set_cons_zero, List.set_cons_succ]
            refine takeH 5 (.pointer (some ⟨bw, 0, none⟩)) rfl rfl (by kernel_rfl) (by kernel_rfl) (by kernel_rfl) (fun _ _ _ h => h) (by rfl) (fun w' hw' => by go_simp) HS ?_
            simp only [List.setIfInBounds_toArray, List.set_cons_zero, List.set_cons_succ]
            refine takeH 6 (.pointer (some ⟨bw, 0, none⟩)) rfl rfl (by kernel_rfl) (by kernel_rfl) (by kernel_rfl) (fun _ _ _ h => h) (by rfl) (fun w' hw' => by go_simp) HS ?_
            simp only [List.setIfInBounds_toArray, List.set_cons_zero, List.set_cons_succ]
            refine takeH 7 (.pointer (some ⟨bw, 0, none⟩)) rfl rfl (by kernel_rfl) (by kernel_rfl) (by kernel_rfl) (fun _ _ _ h => h) (by rfl) (fun w' hw' => by go_simp) HS ?_
            simp only [List.setIfInBounds_toArray, List.set_cons_zero, List.set_cons_succ]
            refine takeH 8 (.slice (some ⟨pc, pco, none⟩) m cc) rfl rfl (by kernel_rfl) (by kernel_rfl) (by kernel_rfl) (fun _ _ _ h => h) (by rfl) (fun w' hw' => by obtain ⟨y0, y1, y2, y3, y4⟩ := hw'; go_simp) HS ?_
            simp only [List.setIfInBounds_toArray, List.set_cons_zero, List.set_cons_succ]
            refine takeH 9 (.pointer (some ⟨q, 2, none⟩)) rfl rfl (by kernel_rfl) (by kernel_rfl) (by kernel_rfl) (fun _ _ _ h => h) (by rfl) (fun w' hw' => by go_simp) HS ?_
            simp only [List.setIfInBounds_toArray, List.set_cons_zero, List.set_cons_succ]
            refine takeH 10 (.int .i64 (tn : Int)) rfl rfl (by kernel_rfl) (by kernel_rfl) (by kernel_rfl) (fun _ _ _ h => h) (by rfl) (fun w' hw' => by obtain ⟨y0, y1, y2, y3, y4⟩ := hw'; go_simp) HS ?_
            simp only [List.setIfInBounds_toArray, List.set_cons_zero, List.set_cons_succ]
            refine takeH 11 (.int .i64 ((tn : Int) - 1)) rfl rfl (by kernel_rfl) (by kernel_rfl) (by kernel_rfl) (fun _ _ _ h => h) (by rfl) (fun w' hw' => by go_simp) HS ?_
            simp only [List.setIfInBounds_toArray, List.set_cons_zero, List.set_cons_succ]
            refine takeH 12 (.pointer (some ⟨pc, pco + (tn - 1) * 2, none⟩)) rfl rfl (by kernel_rfl) (by kernel_rfl) (by kernel_rfl) (fun _ _ _ h => h) (by rfl) (fun w' hw' => by go_simp) HS ?_
            simp only [List.setIfInBounds_toArray, List.set_cons_zero, List.set_cons_succ]
            refine takeH 13 (.agg #[.int .i64 u0, .int .u32 u1]) rfl rfl (by kernel_rfl) (by kernel_rfl) (by kernel_rfl) (fun _ _ _ h => h) (by rfl) (fun w' hw' => by obtain ⟨y0, y1, y2, y3, y4⟩ := hw'; go_simp) HS ?_
            simp only [List.setIfInBounds_toArray, List.set_cons_zero, List.set_cons_succ]
            refine wpAnyH_all (rs := [4, 14]) (by kernel_rfl) (by simp) ?_
            intro i hi
            rcases List.mem_cons.1 hi with rfl | hi
            · refine wpOp_value 4 (v4) rfl rfl (by rfl) (w' := W5.drew) (by go_simp) ⟨HS, ?_⟩
              simp only [List.setIfInBounds_toArray, List.set_cons_zero, List.set_cons_succ]
              refine wpAnyH_all (rs := [14]) (by kernel_rfl) (by simp) ?_
              intro i hi
              obtain rfl : i = 14 := by simpa using hi
              refine wpOp_value 14 (.slice (some ⟨W5.heap.size, 0, none⟩) 1 1) rfl rfl (by rfl) (w' := (W5.drew.alloc (.cells #[.int .i64 u0, .int .u32 u1] 45))) (by go_simp) ⟨HS1.ext (((Ext.refl _).drew).alloc _), ?_⟩
              simp only [List.setIfInBounds_toArray, List.set_cons_zero, List.set_cons_succ]
              have XA : Ext W5 (W5.drew.alloc (.cells #[.int .i64 u0, .int .u32 u1] 45)) := ((Ext.refl W5).drew).alloc _
              have HO := own_ext S5.out.out XA
              have SA := HS1.ext XA
              refine wpAnyH_all (rs := [15]) (by kernel_rfl) (by simp) ?_
              intro i hi
              obtain rfl : i = 15 := by simpa using hi
              refine wpOp_append 15 rfl rfl (by rfl) _ _ 22 rfl B 45 i0 (.agg #[.int .i64 0, .int .u32 0]) 2 16 Try.underlying22 hia.out hz0 hz1 hz2 rfl (by decide) v4 l5.length (l5.flatMap icell) (by rfl) HO (some ⟨W5.heap.size, 0, none⟩) 1 1 [.int .i64 u0, .int .u32 u1] (by rfl) (rd_new1 W5.drew (.int .i64 u0) (.int .u32 u1) 45) (by simp [Value.oneCell']) (by unfold maxLen; omega) (by omega) (Nat.le_trans HBW XA.size) (by omega) ?_
              intro v' w4 hown4 hgrow4 hat4
              obtain ⟨a4, k4, rfl, -⟩ := own_shape hown4
              have SB := SA.grown hgrow4 HNe HNq HNc
              have q1 := (S5.out.blk.ext XA).grown hgrow4 HNe
              have q2 := q1.cell 1 _ rfl
              have q3 := q1.frozen 1
              refine ⟨SB, ?_⟩
              simp only [List.setIfInBounds_toArray, List.set_cons_zero, List.set_cons_succ]
              refine takeH 16 (.pointer (some ⟨bw, 0, none⟩)) rfl rfl (by kernel_rfl) (by kernel_rfl) (by kernel_rfl) (fun _ _ _ h => h) (by rfl) (fun w' hw' => by go_simp) SB ?_
              simp only [List.setIfInBounds_toArray, List.set_cons_zero, List.set_cons_succ]
              refine takeH 17 (.pointer (some ⟨bw, 1, none⟩)) rfl rfl (by kernel_rfl) (by kernel_rfl) (by kernel_rfl) (fun _ _ _ h => h) (by rfl) (fun w' hw' => by go_simp) SB ?_
              simp only [List.setIfInBounds_toArray, List.set_cons_zero, List.set_cons_succ]
              refine storeH 18 rfl rfl (by kernel_rfl) (by rfl) (w' := w4.setCell ⟨bw, 1, none⟩ (.slice a4 (l5.length + 1) k4)) (by go_simp) (SB.set (by omega) (by omega) _) ?_
              refine wpAnyH_done (by kernel_rfl) ?_ _
              have hown5 : OwnC w4 B (.slice a4 (l5.length + 1) k4) (l5 ++ [(u0, u1)]) := by
                unfold OwnC
                rw [List.length_append, List.flatMap_append]
                exact hown4
              have S3 := (S5.out.ext XA).trans (WS.push (S5.out.blk.ext XA) HNe hown5 hgrow4 (by rcases hat4 with h | h; exact Or.inl h; exact Or.inr (fun k hk => by rw [h] at hk; cases hk; exact Nat.le_refl _)) (l := l5))
              have N3 := ((N5.out.ext XA).grown hgrow4 HNq).set_other (c := bw) (i := 1) (by omega) (.slice a4 (l5.length + 1) k4)
              have hvq2 : ∀ k, (Value.slice a4 (l5.length + 1) k4).ownBlock = some k → k ≠ q := fun k hk => by
                rcases hat4 with h | h
                · rw [h] at hk; have := hvq.out k hk; omega
                · rw [h] at hk; cases hk; have := N5.out.lt; have h2 := XA.size; omega
              go_wp2_with fail
              go_roundw
              case rel => exact ⟨k + 1, t1.app (.cons op fn tn b o .nil), r, _, by omega, by go_num, HT.out, HK.out, hidden (by rw [flF_app, ← List.append_assoc, hl1e.out, HFl.out]; exact (by have HL : l1 ++ (C.getD fn (0, 0) :: (flF C b ++ (if no = 0 then [] else (28, 0) :: flF C o) ++ [C.getD (tn - 1) (0, 0)])) = l5 ++ [(u0, u1)] := (by rw [← hl5.out, ← hl4.out, ← hu.out]; simp); rw [HL]; exact S3))⟩
              case measure => simp [intOf]; omega
            · obtain rfl : i = 14 := by simpa using hi
              have w1' := ((Ext.refl W5).alloc (.cells #[.int .i64 u0, .int .u32 u1] 45)).cell w1
              refine wpOp_value 14 (.slice (some ⟨W5.heap.size, 0, none⟩) 1 1) rfl rfl (by rfl) (w' := (W5.drew.alloc (.cells #[.int .i64 u0, .int .u32 u1] 45))) (by go_simp) ⟨HS1.ext (((Ext.refl _).drew).alloc _), ?_⟩
              simp only [List.setIfInBounds_toArray, List.set_cons_zero, List.set_cons_succ]
              refine wpAnyH_all (rs := [4]) (by kernel_rfl) (by simp) ?_
              intro i hi
              obtain rfl : i = 4 := by simpa using hi
              refine wpOp_value 4 (v4) rfl rfl (by rfl) (w' := (W5.drew.alloc (.cells #[.int .i64 u0, .int .u32 u1] 45))) (by go_simp) ⟨HS1.ext (((Ext.refl _).drew).alloc _), ?_⟩
              simp only [List.setIfInBounds_toArray, List.set_cons_zero, List.set_cons_succ]
              have XA : Ext W5 (W5.drew.alloc (.cells #[.int .i64 u0, .int .u32 u1] 45)) := ((Ext.refl W5).drew).alloc _
              have HO := own_ext S5.out.out XA
              have SA := HS1.ext XA
              refine wpAnyH_all (rs := [15]) (by kernel_rfl) (by simp) ?_
              intro i hi
              obtain rfl : i = 15 := by simpa using hi
              refine wpOp_append 15 rfl rfl (by rfl) _ _ 22 rfl B 45 i0 (.agg #[.int .i64 0, .int .u32 0]) 2 16 Try.underlying22 hia.out hz0 hz1 hz2 rfl (by decide) v4 l5.length (l5.flatMap icell) (by rfl) HO (some ⟨W5.heap.size, 0, none⟩) 1 1 [.int .i64 u0, .int .u32 u1] (by rfl) (rd_new1 W5.drew (.int .i64 u0) (.int .u32 u1) 45) (by simp [Value.oneCell']) (by unfold maxLen; omega) (by omega) (Nat.le_trans HBW XA.size) (by omega) ?_
              intro v' w4 hown4 hgrow4 hat4
              obtain ⟨a4, k4, rfl, -⟩ := own_shape hown4
              have SB := SA.grown hgrow4 HNe HNq HNc
              have q1 := (S5.out.blk.ext XA).grown hgrow4 HNe
              have q2 := q1.cell 1 _ rfl
              have q3 := q1.frozen 1
              refine ⟨SB, ?_⟩
              simp only [List.setIfInBounds_toArray, List.set_cons_zero, List.set_cons_succ]
              refine takeH 16 (.pointer (some ⟨bw, 0, none⟩)) rfl rfl (by kernel_rfl) (by kernel_rfl) (by kernel_rfl) (fun _ _ _ h => h) (by rfl) (fun w' hw' => by go_simp) SB ?_
              simp only [List.setIfInBounds_toArray, List.set_cons_zero, List.set_cons_succ]
              refine takeH 17 (.pointer (some ⟨bw, 1, none⟩)) rfl rfl (by kernel_rfl) (by kernel_rfl) (by kernel_rfl) (fun _ _ _ h => h) (by rfl) (fun w' hw' => by go_simp) SB ?_
              simp only [List.setIfInBounds_toArray, List.set_cons_zero, List.set_cons_succ]
              refine storeH 18 rfl rfl (by kernel_rfl) (by rfl) (w' := w4.setCell ⟨bw, 1, none⟩ (.slice a4 (l5.length + 1) k4)) (by go_simp) (SB.set (by omega) (by omega) _) ?_
              refine wpAnyH_done (by kernel_rfl) ?_ _
              have hown5 : OwnC w4 B (.slice a4 (l5.length + 1) k4) (l5 ++ [(u0, u1)]) := by
                unfold OwnC
                rw [List.length_append, List.flatMap_append]
                exact hown4
              have S3 := (S5.out.ext XA).trans (WS.push (S5.out.blk.ext XA) HNe hown5 hgrow4 (by rcases hat4 with h | h; exact Or.inl h; exact Or.inr (fun k hk => by rw [h] at hk; cases hk; exact Nat.le_refl _)) (l := l5))
              have N3 := ((N5.out.ext XA).grown hgrow4 HNq).set_other (c := bw) (i := 1) (by omega) (.slice a4 (l5.length + 1) k4)
              have hvq2 : ∀ k, (Value.slice a4 (l5.length + 1) k4).ownBlock = some k → k ≠ q := fun k hk => by
                rcases hat4 with h | h
                · rw [h] at hk; have := hvq.out k hk; omega
                · rw [h] at hk; cases hk; have := N5.out.lt; have h2 := XA.size; omega
              go_wp2_with fail
              go_roundw
              case rel => exact ⟨k + 1, t1.app (.cons op fn tn b o .nil), r, _, by omega, by go_num, HT.out, HK.out, hidden (by rw [flF_app, ← List.append_assoc, hl1e.out, HFl.out]; exact (by have HL : l1 ++ (C.getD fn (0, 0) :: (flF C b ++ (if no = 0 then [] else (28, 0) :: flF C o) ++ [C.getD (tn - 1) (0, 0)])) = l5 ++ [(u0, u1)] := (by rw [← hl5.out, ← hl4.out, ← hu.out]; simp); rw [HL]; exact S3))⟩
              case measure => simp [intOf]; omega
    · obtain rfl : k = n := by omega
      have hk2 : t2 = .nil := by
        cases t2 with
        | nil => rfl
        | cons op f tt b o r => 
          have h1 := hn.out
          rw [ht.out, T.len_app, hk1.out] at h1
          simp [T.len] at h1
      go_wp2_with fail
      go_end0
      refine ⟨rfl, v1, ?_⟩
      have h1 := hS.out
      rw [ht.out, hk2, T.app_nil]
      exact h1
end Go.Proofs.Ytcnbljohhajkhaa
