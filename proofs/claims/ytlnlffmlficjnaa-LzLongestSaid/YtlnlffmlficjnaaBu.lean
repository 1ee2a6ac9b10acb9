/- The reference's Copy. -/
import Derived.Test.YtlnlffmlficjnaaBt
namespace Go.Proofs.Ytlnlffmlficjnaa
open Go.RowKit
set_option linter.unusedVariables false
attribute [local go_sem ↓] Go.wp_at_zero Go.wp_at_succ

/-- append of a slice that is read, nil too, at a step of a region that draws its order. -/
theorem step_append_rd {P : Program} {w : World} {ops : Array Oper} {o : Oper} {a : Act} {K : Act → World → Prop} {Q : Exit → Act → World → Prop} {E : Prop} (hgd : o.guard = none) (s x : Operand) (t : TypeId)
    (ho : o.op = .call { callee := .builtin .append, args := #[s, x], argTypes := #[t, t] })
    (base : Nat) (e : TypeId) (i : TypeInfo) (z : Value) (size bytes : Nat) (ht : P.underlying t = some (.slice e)) (hi : P.info? e = some i) (hz : i.zero = some z)
    (hsize : i.size = size) (hby : i.bytes = bytes) (hzs : z.cells.size = size) (hsz : 0 < size)
    (v : Value) (n : Nat) (xs : List Value) (hs : a.eval s = v) (hown : w.ownsRow base e size v n xs)
    (y : Option Addr) (m c : Nat) (news : List Value) (hx : a.eval x = .slice y m c) (hr : Rd w size (.slice y m c) m news) (h1 : ∀ u ∈ news, u.oneCell' = true)
    (h63 : n + m ≤ maxLen) (hbytes : (n + m) * bytes ≤ 140737488355328) (hbase : base ≤ w.heap.size)
    (h : ∀ v' w', w'.ownsRow base e size v' (n + m) (xs ++ news) → w.grownBy w' v.ownBlock → K (a.put o.dst v') w') :
    if Region.wanted o (yielded ops a.tmps) = true then Oper.wp P o a w K Q else E := by
  have hw : Region.wanted o (yielded ops a.tmps) = true := by simp [Region.wanted, hgd]
  rw [if_pos hw]
  cases y with
  | none =>
    obtain ⟨hl, a', cap', e1, h3, h4, h5, h6⟩ := hr
    simp only [Value.slice.injEq] at e1
    obtain ⟨rfl, -, rfl⟩ := e1
    have hc := h5 rfl
    subst hc
    obtain rfl : m = 0 := by omega
    obtain rfl : news = [] := List.eq_nil_of_length_eq_zero (by omega)
    have hrun := run_append_owned_none (P := P) (w := w) base t o.type e i size ht hi v n xs hown
    unfold Oper.wp
    simp [execOp, ho, resolve, invoke, builtin, hs, hx, hrun, Result.andThen]
    exact h v w (by simpa using hown) ⟨rfl, rfl, rfl, Nat.le_refl _, fun _ _ _ => rfl⟩
  | some ad =>
    obtain ⟨v', w', hrr, h2, h3, h4, h5⟩ := run_append_own_at (P := P) w base t o.type e i z size bytes ht hi hz hsize hby hzs hsz v n xs hown ad m c news hr.1 (Rd.news hr) h1 h63 hbytes hbase
    unfold Oper.wp execOp
    simp only [ho, resolve, invoke, builtin, Sem.run_bind, Sem.run_pure, Result.andThen_ok, List.map_toArray, List.map_cons, List.map_nil, hs, hx, hrr]
    exact h v' w' h2 h3

def CopyPost (w : World) (c : Int) (D : List Int) (x : Ending) (w' : World) : Prop :=
  ∃ v', x = .returned (.agg #[v', .int .i64 c]) ∧ Own8 w' w.heap.size v' D ∧ Ext w w'

set_option maxHeartbeats 2000000 in
theorem copy_any (v : Value) (D : List Int) (c : Int) (hl : D.length ≤ 900000) (w : World) (h : Rd8 w v D) :
    Calls Try.prog 54 #[.agg #[v, .int .i64 c]] w (CopyPost w c D) := by
  obtain ⟨a, cap, rfl, q1, q2, q3⟩ := Rd.shape h
  obtain ⟨i0, hi, hz0, hz1, hz2⟩ := info_parts u8info
  have HB : Blk ((w.alloc (.cells #[.slice a D.length cap, .int .i64 c] 57)).alloc (.cells #[.slice none 0 0, .int .i64 0] 57)) w.heap.size 57 [.slice a D.length cap, .int .i64 c] := (Blk.new w [.slice a D.length cap, .int .i64 c] _).alloc _
  have HZ : Blk ((w.alloc (.cells #[.slice a D.length cap, .int .i64 c] 57)).alloc (.cells #[.slice none 0 0, .int .i64 0] 57)) (w.heap.size + 1) 57 [.slice none 0 0, .int .i64 0] := Blk.newAt (w.alloc (.cells #[.slice a D.length cap, .int .i64 c] 57)) [.slice none 0 0, .int .i64 0] 57 (w.heap.size + 1) (by simp)
  have HR : Rd8 ((((w.alloc (.cells #[.slice a D.length cap, .int .i64 c] 57)).alloc (.cells #[.slice none 0 0, .int .i64 0] 57)).alloc (.cells #[] 5)).drew) (.slice a D.length cap) D := (Rd.alloc (Rd.alloc (Rd.alloc h _) _) _).drew
  have O0 : ((((w.alloc (.cells #[.slice a D.length cap, .int .i64 c] 57)).alloc (.cells #[.slice none 0 0, .int .i64 0] 57)).alloc (.cells #[] 5)).drew).ownsRow (w.heap.size + 1 + 1) 5 1 (.slice (some ⟨w.heap.size + 1 + 1, 0, none⟩) 0 0) 0 [] := by
    have := own_zero ((w.alloc (.cells #[.slice a D.length cap, .int .i64 c] 57)).alloc (.cells #[.slice none 0 0, .int .i64 0] 57)) 5 1
    rw [World.size_alloc, World.size_alloc] at this
    exact this
  have HBe := HB.alloc (.cells #[] 5)
  have HZe := HZ.alloc (.cells #[] 5)
  have c0 := HB.cell 0 _ rfl
  have c1 := HB.cell 1 _ rfl
  have c2 := HBe.cell 0 _ rfl
  have c3 := HBe.cell 1 _ rfl
  have hne1 : (Value.slice (some ⟨w.heap.size + 1 + 1, 0, none⟩) 0 0).ownBlock ≠ some w.heap.size := fun e => by simp only [Value.ownBlock, Option.some.injEq] at e; omega
  have hne2 : (Value.slice (some ⟨w.heap.size + 1 + 1, 0, none⟩) 0 0).ownBlock ≠ some (w.heap.size + 1) := fun e => by simp only [Value.ownBlock, Option.some.injEq] at e; omega
  have hne1 := hidden hne1
  have hne2 := hidden hne2
  go_enter Try.func54, Try.ntmps54
  go_upto_region 1 with fail
  go_region_law (first | (refine step_append_rd (by rfl) _ _ 28 (by rfl) (w.heap.size + 1 + 1) 5 i0 (.int .u8 0) 1 1 Try.underlying28 hi hz0 hz1 hz2 rfl (by decide) (.slice (some ⟨w.heap.size + 1 + 1, 0, none⟩) 0 0) 0 [] (by rfl) O0 a D.length cap (bs D) (by rfl) HR (bs_one D) (by unfold maxLen; omega) (by omega) (by simp) ?_; intro v' w1 hown hgrow; rw [Nat.zero_add, List.nil_append] at hown; obtain ⟨a1, k1, rfl, s1, s2, s3⟩ := Rd.shape (Rd.of_own hown); have B1 := (HBe.drew).grown hgrow hne1.out; have Z1 := (HZe.drew).grown hgrow hne2.out; have b0 := B1.cell 0 _ rfl; have b1 := B1.cell 1 _ rfl; have z0 := Z1.cell 0 _ rfl; have z1 := Z1.cell 1 _ rfl; have y0 := Z1.frozen 0; have y1 := Z1.frozen 1))
  all_goals
    have hzg := own_ne_blk hown Z1 (by decide)
    have Z4 := (Z1.set 0 (.slice a1 D.length k1)).set 1 (.int .i64 c)
    have p0 := Z4.cell 0 _ rfl
    have p1 := Z4.cell 1 _ rfl
    have hC := ((Chg.refl [w.heap.size + 1] w1).setCell (p := ⟨w.heap.size + 1, 0, none⟩) (Or.inl (by simp)) (.slice a1 D.length k1)).setCell (p := ⟨w.heap.size + 1, 1, none⟩) (Or.inl (by simp)) (.int .i64 c)
    have O4 := own_chg hown hC (by intro y hy; simp at hy; subst hy; exact hzg)
    have E0 : Ext w ((((w.alloc (.cells #[.slice a D.length cap, .int .i64 c] 57)).alloc (.cells #[.slice none 0 0, .int .i64 0] 57)).alloc (.cells #[] 5)).drew) := ((((Ext.refl w).alloc _).alloc _).alloc _).drew
    have E1 := (((Chg.of_ext [] E0).grown hgrow (fun k hk => Or.inr (by simp [Value.ownBlock] at hk; omega))).setCell (p := ⟨w.heap.size + 1, 0, none⟩) (Or.inr (by simp)) (.slice a1 D.length k1)).setCell (p := ⟨w.heap.size + 1, 1, none⟩) (Or.inr (by simp)) (.int .i64 c)
    clear c0 c1 c2 c3 b0 b1 z0 z1 y0 y1
    go_wp2_with fail
    refine bodyPost_ret (v := .agg #[.slice a1 D.length k1, .int .i64 c]) (by simp [results, Try.results54, go_sem, p0, p1]) rfl ?_
    exact ⟨_, rfl, own_mono O4 (by omega), E1.ext⟩
end Go.Proofs.Ytlnlffmlficjnaa
