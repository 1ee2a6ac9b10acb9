/- Layer 33: Count. -/
import Derived.Test.YtfebgcbkadmgiaaSfz
namespace Go.Proofs.Ytfebgcbkadmgiaa
open Go.RowKit Go.Shelf
set_option linter.unusedVariables false
set_option linter.unusedSimpArgs false
attribute [local go_sem] Oper.semAt_some

section
variable {P : Program} {md : Region.Mode} {ops : Array Oper} {Q : Exit → Act → World → Prop} {S : World → Prop}
theorem valueU {D : List Nat} (i : Nat) (v : Value) {oi : Oper} {d : Tmp} {fuel : Nat} {listed : Array Bool} {a : Act} {w w' : World} (hi : ops[i]? = some oi) (hd : oi.dst = some d)
    (hw : Region.wanted oi (yielded ops a.tmps) = true) (hrun : (execOp a.eval oi).run P w = .ok (.value v) w') (hS : i ∉ D → S w')
    (h : wpAnyD P md ops Q S D fuel (listed.setIfInBounds i true) { a with tmps := a.tmps.setIfInBounds d v } w') : wpOp P ops Q i (fun a' w' => (i ∉ D → S w') ∧ wpAnyD P md ops Q S D fuel (listed.setIfInBounds i true) a' w') a w := by
  unfold wpOp
  simp only [hi, hw, if_true]
  left
  unfold Oper.wp
  rw [hrun]
  show (i ∉ D → S w') ∧ wpAnyD P md ops Q S D fuel _ (a.put oi.dst v) w'
  rw [hd]
  exact ⟨hS, h⟩
theorem callU {D : List Nat} (i : Nat) {oi : Oper} {d : Tmp} {fuel : Nat} {listed : Array Bool} {a : Act} {w : World} (f : FuncId) (args : Array Value) {R : Ending → World → Prop} (hi : ops[i]? = some oi) (hd : oi.dst = some d)
    (hw : Region.wanted oi (yielded ops a.tmps) = true) (hrun : (execOp a.eval oi).run P w = .ok (.enter f args) w) (hc : Calls P f args w R)
    (h : ∀ e w', R e w' → (∃ v, e = .returned v ∧ (i ∉ D → S w') ∧ wpAnyD P md ops Q S D fuel (listed.setIfInBounds i true) { a with tmps := a.tmps.setIfInBounds d v } w') ∨ (∃ c, e = .panicked c ∧ Q (.panic c) a w')) : wpOp P ops Q i (fun a' w' => (i ∉ D → S w') ∧ wpAnyD P md ops Q S D fuel (listed.setIfInBounds i true) a' w') a w := by
  unfold wpOp
  simp only [hi, hw, if_true]
  left
  unfold Oper.wp
  rw [hrun]
  refine Calls.mono hc ?_
  intro e w' hR
  rcases h e w' hR with ⟨v, rfl, hS, hh⟩ | ⟨c, rfl, hq⟩
  · refine ⟨hS, ?_⟩
    show wpAnyD P md ops Q S D fuel _ (a.put oi.dst v) w'
    rw [hd]
    exact hh
  · exact hq
end

/-- The end of the pattern that has been looked at. -/
def sfx {n : Nat} (P : List Int) (pre : List (Fin n)) : List Int := (pre.map fun x => P.getD (n - 1 - x.val) 0).reverse
theorem sfx_snoc {n : Nat} (P : List Int) (pre : List (Fin n)) (x : Fin n) : sfx P (pre ++ [x]) = P.getD (n - 1 - x.val) 0 :: sfx P pre := by simp [sfx]
theorem sfx_up {n : Nat} (P : List Int) (hn : P.length = n) : ∀ k, k ≤ n → sfx P (upF n k) = P.drop (n - k)
  | 0, _ => by rw [Nat.sub_zero, ← hn, List.drop_length]; simp [sfx, upF]
  | k + 1, hk => by
    rw [upF_succ (by omega), sfx_snoc, sfx_up P hn k (by omega), show n - k = n - (k + 1) + 1 by omega, Suf.drop_cons (b := P) (q := n - (k + 1)) (by omega)]
    congr 2
    show n - 1 - k = n - (k + 1)
    omega
theorem sfx_all {n : Nat} (P : List Int) (hn : P.length = n) : sfx P (List.finRange n) = P := by
  rw [← upF_all, sfx_up P hn n (Nat.le_refl _), Nat.sub_self]; rfl
theorem cq_step {b : List Int} {o : List Nat} (h : Suf.IsSA b o) {q : List Int → List Int → Bool} (hq : Suf.QOk q) (S : List Int) (z : Nat) :
    (Suf.cq q b ((z : Int) :: S) : Int) = st (Suf.tr b o) z + (cntC (Suf.tr b o) (rowN (Suf.rk b 0) (Suf.cq q b S)) (z : Int) : Int) := by
  rw [h.step hq]
  obtain ⟨i, h1, h2⟩ := tr_take (b := b) (o := o) (Suf.cq q b S)
  have h3 := Suf.tr_take_len h (r := Suf.cq q b S) (by have := Suf.cq_le q b S; have := h.len; omega)
  rw [h3] at h2
  unfold st cntC rowN
  rw [h1, h2]
  omega
theorem cnt_zero_up {b P : List Int} {n : Nat} (hn : P.length = n) {k : Nat} (hk : k ≤ n) (h : Suf.cnt b (sfx P (upF n k)) = 0) : Suf.cnt b P = 0 := by
  rw [sfx_up P hn k hk] at h
  have := Suf.cnt_app_zero h (P.take (n - k))
  rwa [List.take_append_drop] at this
/-- The function ended early: no row is left. -/
def LeftC {n : Nat} (b P : List Int) (c6 c7 : Nat) (cd : Code) (pre : List (Fin n)) (W : World) : Prop := ∃ (ini : List (Fin n)) (x : Fin n), pre = ini ++ [x] ∧ Suf.cnt b (sfx P ini) = 0 ∧ (Blk W c6 3 [.int .i64 0] ∧ Blk W c7 24 [.int .i64 0]) ∧ cd = .ret
theorem leftC_own {n : Nat} (b P : List Int) (c6 c7 : Nat) (cd : Code) : Own (LeftC (n := n) b P c6 c7 cd) := fun s X Y r hs hg hrow => by
  obtain ⟨ini, x, h1, h2, ⟨h3, h4⟩, h5⟩ := hs
  exact ⟨ini, x, h1, h2, ⟨blk_own (β := Unit) c6 3 (fun _ => [.int .i64 0]) () X Y r h3 hg hrow, blk_own (β := Unit) c7 24 (fun _ => [.int .i64 0]) () X Y r h4 hg hrow⟩, h5⟩
def CountP (w : World) (r : Nat) (e : Ending) (w' : World) : Prop := e = .returned (.tuple #[.int .i64 (r : Int), .int .i64 0]) ∧ Ext w w'

set_option maxRecDepth 100000 in
set_option maxHeartbeats 1600000 in
theorem count_any (v vP : Value) (b P : List Int) (o : List Nat) (hb : Bytes b) (hP : Bytes P) (h : Suf.IsSA b o) (hn : b.length ≤ 1000) (hL : P.length ≤ 1000) (w : World) (hr : Rd8 w v (Suf.tr b o)) (hrP : Rd8 w vP P) :
    Calls Try.prog 12 #[v, .int .i64 (Suf.rk b 0 : Int), vP] w (CountP w (Suf.cnt b P)) := by
  obtain ⟨D, hD⟩ : ∃ D, Suf.tr b o = D := ⟨_, rfl⟩
  have hDl : D.length = b.length := by rw [← hD, Suf.tr_length h.perm]
  have hDb : Bytes D := by rw [← hD]; exact tr_bytes hb (fun x hx => by have := List.mem_range.1 (h.perm.mem_iff.1 hx); omega)
  have hinv := fun W (hX : Ext w W) => inverse2_any v b o hb h hn W (Rd.ext hr hX)
  have hstep := fun q (hq : Suf.QOk q) S z => cq_step h hq S z
  have hpr : Suf.rk b 0 ≤ b.length := by
    obtain ⟨h1, -⟩ := h.at_ (p := 0) (by omega)
    have := h.len
    omega
  rw [hD] at hr hstep
  obtain ⟨n, hne⟩ : ∃ n, b.length = n := ⟨_, rfl⟩
  obtain ⟨L, hLe⟩ : ∃ L, P.length = L := ⟨_, rfl⟩
  obtain ⟨pr, hpre⟩ : ∃ pr, Suf.rk b 0 = pr := ⟨_, rfl⟩
  have hcl := fun q S => Suf.cq_le q b S
  rw [hpre] at hinv hstep hpr ⊢
  rw [hne] at hDl hn hpr hcl
  have hlo0 := Suf.cq_nil_lo b
  have hhi0 := Suf.cq_nil_hi b
  rw [hne] at hhi0
  obtain ⟨ad, cap, rfl, q1, q2, q3⟩ := Rd.shape hr
  obtain ⟨pd, cp, rfl, p1, p2, p3⟩ := Rd.shape hrP
  have hR : Hid (Rd8 w (.slice ad n cap) D) := hidden (by rw [← hDl]; exact hr)
  have hRP : Hid (Rd8 w (.slice pd L cp) P) := hidden (by rw [← hLe]; exact hrP)
  rw [hDl] at q1 hinv ⊢
  rw [hLe] at p1 hL ⊢
  have hst := fun W (hW : Rd8 W (.slice ad n cap) D) => starts_any (.slice ad n cap) D (pr : Int) hDb (by omega) W hW
  have hbf := fun (row : Nat) (c : Int) (hrow : row ≤ n + 1) W (hW : Rd8 W (.slice ad n cap) D) => before_any (.slice ad n cap) D pr n row c hDb hDl hn hpr hrow W hW
  have hX0 : Ext w ((w.alloc (.cells #[.int .i64 0] 3)).alloc (.cells #[.int .i64 0] 24)) := ((Ext.refl w).alloc _).alloc _
  have hin1 := hinv _ hX0
  have r6 := (Blk.new w [.int .i64 0] 3).alloc (.cells #[.int .i64 0] 24)
  have r7 := blk_newAt' (w.alloc (.cells #[.int .i64 0] 3)) [.int .i64 0] 24 (w.heap.size + 1) (by simp)
  clear hr hrP hinv hpre
  replace hX0 := hidden hX0
  replace hin1 := hidden hin1
  replace r6 := hidden r6
  replace r7 := hidden r7
  replace hDl := hidden hDl
  replace hne := hidden hne
  replace hLe := hidden hLe
  replace hst := hidden hst
  replace hbf := hidden hbf
  replace hcl := hidden hcl
  replace hlo0 := hidden hlo0
  replace hhi0 := hidden hhi0
  replace hstep := hidden hstep
  replace h := hidden h
  replace hD := hidden hD
  replace hb := hidden hb
  replace hP := hidden hP
  replace hDb := hidden hDb
  refine (callsIn_wide (n := 6)).1 ?_
  refine callsIn_of_wp_marks Try.func12 rfl trivial ?_ rfl
  simp only [Try.ntmps12, List.size_toArray, List.length_cons, List.length_nil, Nat.reduceAdd, Nat.reduceSub, Array.replicate_succ, Array.replicate_zero, List.push_toArray, List.append_toArray, List.nil_append, List.cons_append]
  refine wpIn_wide.2 ?_
  go_wp2_with fail
  refine hin1.out.mono ?_
  rintro e w1 ⟨v2, rfl, -, hX1⟩
  obtain ⟨s, hs⟩ : ∃ s, w.heap.size = s := ⟨_, rfl⟩
  have r6' := r6.out.ext hX1
  have r7' := r7.out.ext hX1
  rw [hs] at r6' r7' ⊢
  have hXa := hX0.out.trans hX1
  replace hs := hidden hs
  replace r6' := hidden r6'
  replace r7' := hidden r7'
  clear r6 r7 hX1 hX0 hin1
  have hL2 : decide ((65536 : Int) < (L : Int)) = false := decide_eq_false (by omega)
  go_wp2_with fail
  have hXb : Ext w (w1.alloc (.cells #[.slice ad n cap, .int .i64 (pr : Int)] 46)) := hXa.alloc _
  refine (hst.out _ (Rd.ext hR.out hXb)).mono ?_
  rintro e w2 ⟨rfl, hX2⟩
  have hB1 := (Blk.new w1 [.slice ad n cap, .int .i64 (pr : Int)] 46).ext hX2
  have hXc := hXb.trans hX2
  have r6 := (r6'.out.alloc (.cells #[.slice ad n cap, .int .i64 (pr : Int)] 46)).ext hX2
  have r7 := (r7'.out.alloc (.cells #[.slice ad n cap, .int .i64 (pr : Int)] 46)).ext hX2
  obtain ⟨rb, hrb⟩ : ∃ rb, w1.heap.size = rb := ⟨_, rfl⟩
  have hrs : s + 1 < rb := by have := r7'.out.lt; omega
  rw [hrb] at hB1 ⊢
  have hrb2 : rb < w2.heap.size := hB1.lt
  replace hrb := hidden hrb
  clear r6' r7' hXa hXb hX2
  obtain ⟨ST, hST⟩ : ∃ x, (iv (stL D)).toArray = x := ⟨_, rfl⟩
  have hsz : ST.size = 256 := by rw [← hST, List.size_toArray, iv_len, stL_len]
  have hi55 : (Try.prog.info? 55).map (·.size) = some 256 := by kernel_rfl
  have h1c : ST.all (·.oneCell') = true := by rw [← hST]; simp [iv, Value.oneCell']
  have hz0 : (w2.alloc (.cells Try.zeroCells55 55)).heap[w2.heap.size]? = some (.cells Try.zeroCells55 55 (0, 0)) := heap_alloc_new w2 _
  have hzs : Try.zeroCells55.size = ST.size := by rw [hsz]; exact Try.zeroCells55_size
  have hX2 : Ext w2 ((w2.alloc (.cells Try.zeroCells55 55)).setRow w2.heap.size ST) := below_setRow ((Ext.refl w2).alloc _) (Nat.le_refl _) _
  have hG2 : Blk ((w2.alloc (.cells Try.zeroCells55 55)).setRow w2.heap.size ST) w2.heap.size 55 (iv (stL D)) := by
    unfold Blk
    rw [hST]
    exact setRow_heap _ w2.heap.size _ _ 55 _ hz0
  have hB2 := hB1.ext hX2
  have r6b := r6.ext hX2
  have r7b := r7.ext hX2
  have hss : ((w2.alloc (.cells Try.zeroCells55 55)).setRow w2.heap.size ST).heap.size = w2.heap.size + 1 := by rw [size_setRow, World.size_alloc]
  have hXd := hXc.trans hX2
  rw [hST]
  replace hsz := hidden hsz
  replace hST := hidden hST
  replace hG2 := hidden hG2
  replace hB2 := hidden hB2
  replace r6b := hidden r6b
  replace r7b := hidden r7b
  replace hXd := hidden hXd
  clear hX2 hXc hB1 r6 r7
  go_upto_region 8 with (refine wpList_store_row rfl 55 (.tmp 11) (.tmp 32) rfl w2.heap.size ST rfl rfl 55 _ hz0 (by rw [hsz.out]; exact hi55) hzs h1c ?_)
  obtain ⟨W2, hW2⟩ : ∃ X, (w2.alloc (.cells Try.zeroCells55 55)).setRow w2.heap.size ST = X := ⟨_, rfl⟩
  rw [hW2] at hG2 hB2 r6b r7b hXd hss ⊢
  clear hW2 hz0 hzs h1c hi55
  obtain ⟨sb, hsb⟩ : ∃ g, w2.heap.size = g := ⟨_, rfl⟩
  rw [hsb] at hG2 hss hrb2 ⊢
  replace hsb := hidden hsb
  have hv1 : IntKind.i64.wrap ((n : Int) + 1) = (n : Int) + 1 := IntWalk.i64_in _ (by omega)
  go_wp2_with (go_at_call 31; refine (backward_any _ _ pd L cp rfl).mono ?_; rintro e w3 ⟨rfl, rfl⟩)
  -- THE LOOP
  have hsz3 : (((W2.alloc (.cells #[.int .i64 0] 3)).alloc (.cells #[.int .i64 ((n : Int) + 1)] 3)).alloc (.cells #[.slice pd L cp] 22)).heap.size = sb + 1 + 1 + 1 + 1 := by simp only [World.size_alloc, hss]
  have e1 : Blk (((W2.alloc (.cells #[.int .i64 0] 3)).alloc (.cells #[.int .i64 ((n : Int) + 1)] 3)).alloc (.cells #[.slice pd L cp] 22)) (sb + 1) 3 [.int .i64 (Suf.cq Suf.qlo b (sfx (n := L) P []) : Int)] := by
    have := ((blk_newAt' W2 [.int .i64 0] 3 (sb + 1) hss).alloc (.cells #[.int .i64 ((n : Int) + 1)] 3)).alloc (.cells #[.slice pd L cp] 22)
    rw [show sfx (n := L) P [] = [] from rfl, hlo0.out]
    exact this
  have e2 : Blk (((W2.alloc (.cells #[.int .i64 0] 3)).alloc (.cells #[.int .i64 ((n : Int) + 1)] 3)).alloc (.cells #[.slice pd L cp] 22)) (sb + 1 + 1) 3 [.int .i64 (Suf.cq Suf.qhi b (sfx (n := L) P []) : Int)] := by
    have := (blk_newAt' (W2.alloc (.cells #[.int .i64 0] 3)) [.int .i64 ((n : Int) + 1)] 3 (sb + 1 + 1) (by rw [World.size_alloc, hss])).alloc (.cells #[.slice pd L cp] 22)
    rw [show sfx (n := L) P [] = [] from rfl, hhi0.out, show ((n + 1 : Nat) : Int) = (n : Int) + 1 by omega]
    exact this
  have e3 : Blk (((W2.alloc (.cells #[.int .i64 0] 3)).alloc (.cells #[.int .i64 ((n : Int) + 1)] 3)).alloc (.cells #[.slice pd L cp] 22)) (sb + 1 + 1 + 1) 22 [.slice pd L cp] := blk_newAt' ((W2.alloc (.cells #[.int .i64 0] 3)).alloc (.cells #[.int .i64 ((n : Int) + 1)] 3)) [.slice pd L cp] 22 (sb + 1 + 1 + 1) (by rw [World.size_alloc, World.size_alloc, hss])
  have eX : Ext W2 (((W2.alloc (.cells #[.int .i64 0] 3)).alloc (.cells #[.int .i64 ((n : Int) + 1)] 3)).alloc (.cells #[.slice pd L cp] 22)) := (((Ext.refl W2).alloc _).alloc _).alloc _
  obtain ⟨W3, hW3⟩ : ∃ X, ((W2.alloc (.cells #[.int .i64 0] 3)).alloc (.cells #[.int .i64 ((n : Int) + 1)] 3)).alloc (.cells #[.slice pd L cp] 22) = X := ⟨_, rfl⟩
  rw [hW3] at e1 e2 e3 eX hsz3 ⊢
  clear hW3
  have e4 := hB2.out.ext eX
  have e5 := hG2.out.ext eX
  have e6 := r6b.out.ext eX
  have e7 := r7b.out.ext eX
  have e8 := hXd.out.trans eX
  have hRd8 : Rd8 W3 (.slice pd L cp) P := Rd.ext hRP.out e8
  have hRd : Rd W3 1 (.slice pd L cp) L (bs P) := by have := hRd8; unfold Rd8 at this; rw [hLe.out] at this; exact this
  have hlt : ∀ z ∈ ([sb + 1 + 1 + 1] ++ dataS (.slice pd L cp) L), z < W3.heap.size := by
    intro z hz
    rcases List.mem_append.1 hz with hz | hz
    · simp at hz; omega
    · have h8 := dataS_lt (v := .slice pd L cp) (D := P) hRd8
      rw [hLe.out] at h8
      exact h8 z hz
  have hnd : ∀ z ∈ ([sb + 1 + 1 + 1] ++ dataS (.slice pd L cp) L), z ≠ sb + 1 ∧ z ≠ sb + 1 + 1 ∧ z ≠ s ∧ z ≠ s + 1 := by
    intro z hz
    rcases List.mem_append.1 hz with hz | hz
    · simp at hz; omega
    · have h8 := dataS_lt (v := .slice pd L cp) (D := P) hRP.out
      rw [hLe.out] at h8
      have := h8 z hz
      have := hs.out
      omega
  clear eX hB2 hG2 r6b r7b hXd hss
  replace hsz3 := hidden hsz3
  replace hnd := hidden hnd
  rename_i KK hKK
  refine (wpIn_wide (n := 6)).1 ?_
  refine wpIn_rangeFunc_ownG rfl (by omega) (gf := 42) (lb := #[.pointer (some ⟨sb + 1 + 1 + 1, 0, none⟩)]) rfl trivial (enters_of Try.func42 (by kernel_rfl) rfl)
    (backward_stops 5 (by omega) (sb + 1 + 1 + 1) L cp pd P hLe.out hL ([sb + 1 + 1 + 1] ++ dataS (.slice pd L cp) L) (by simp) (fun hn g hg => by simp [dataS, hn, hg]) W3 hlt e3 hRd) keepz_t (keepz_b hlt) (Below.refl _ _) (fun _ => rfl)
    (fun pre W => (((Blk W (sb + 1) 3 [.int .i64 (Suf.cq Suf.qlo b (sfx P pre) : Int)] ∧ Blk W (sb + 1 + 1) 3 [.int .i64 (Suf.cq Suf.qhi b (sfx P pre) : Int)]) ∧ (Blk W rb 46 [.slice ad n cap, .int .i64 (pr : Int)] ∧ Blk W sb 55 (iv (stL D)))) ∧ ((Blk W s 3 [.int .i64 0] ∧ Blk W (s + 1) 24 [.int .i64 0]) ∧ Blk W (sb + 1 + 1 + 1) 22 [.slice pd L cp])) ∧ Below w.heap.size w W)
    (fun cd pre W => LeftC b P s (s + 1) cd pre W ∧ Below w.heap.size w W)
    (OwnFrom.and (OwnFrom.and (OwnFrom.and (OwnFrom.and (Own.from (blk_own _ _ (fun pre => [.int .i64 (Suf.cq Suf.qlo b (sfx P pre) : Int)])) _) (Own.from (blk_own _ _ (fun pre => [.int .i64 (Suf.cq Suf.qhi b (sfx P pre) : Int)])) _)) (OwnFrom.and (Own.from (blk_own _ _ (fun _ => [.slice ad n cap, .int .i64 (pr : Int)])) _) (Own.from (blk_own _ _ (fun _ => iv (stL D))) _))) (OwnFrom.and (OwnFrom.and (Own.from (blk_own _ _ (fun _ => [.int .i64 0])) _) (Own.from (blk_own _ _ (fun _ => [.int .i64 0])) _)) (Own.from (blk_own _ _ (fun _ => [.slice pd L cp])) _))) (ownFrom_below (Nat.le_refl _) (by rw [hsz3.out, hs.out]; omega)))
    (fun cd => OwnFrom.and (Own.from (leftC_own b P s (s + 1) cd) _) (ownFrom_below (Nat.le_refl _) (by rw [hsz3.out, hs.out]; omega)))
    ⟨⟨⟨⟨e1, e2⟩, e4, e5⟩, ⟨e6, e7⟩, e3⟩, e8⟩
    (fun x => { tmps := #[.slice ad n cap, .int .i64 (pr : Int), .slice pd L cp, undef, undef, undef, .pointer (some ⟨s, 0, none⟩), .pointer (some ⟨s + 1, 0, none⟩), v2, .int .i64 0, .pointer (some ⟨rb, 0, none⟩), .pointer (some ⟨sb, 0, none⟩), .pointer (some ⟨sb + 1, 0, none⟩), .pointer (some ⟨sb + 1 + 1, 0, none⟩), undef, .int .u8 (P.getD (L - 1 - x.val) 0), .tuple #[v2, .int .i64 0], .slice ad n cap, .int .i64 (pr : Int), .tuple #[v2, .int .i64 0], v2, .int .i64 0, .int .i64 0, .bool false, undef, .slice pd L cp, .int .i64 (L : Int), .bool false, .slice ad n cap, .int .i64 (pr : Int), .agg #[.slice ad n cap, .int .i64 (pr : Int)], .agg #[.slice ad n cap, .int .i64 (pr : Int)], .agg ST, .slice ad n cap, .int .i64 (n : Int), .int .i64 ((n : Int) + 1), .slice pd L cp, .func (.func 42) #[] #[.pointer (some ⟨sb + 1 + 1 + 1, 0, none⟩)], .int .i64 ((L - 1 - x.val : Nat) : Int), .int .u8 (P.getD (L - 1 - x.val) 0), undef, undef, undef, undef, undef, undef, undef, undef, undef, undef, undef, undef, undef, undef, undef, undef, undef, undef, undef, undef, undef, undef, undef], defers := [] }) ?assign ?body ?done ?stop
  case assign =>
    intro l x W K hK
    unfold encB
    obtain ⟨y, hy⟩ : ∃ y, P.getD (L - 1 - x.val) 0 = y := ⟨_, rfl⟩
    obtain ⟨r, hr⟩ : ∃ r, L - 1 - x.val = r := ⟨_, rfl⟩
    rw [hy] at hK ⊢
    rw [hr] at hK ⊢
    clear hy hr
    gi_wp2
    exact hK
  case body =>
    rintro l pre x W ⟨⟨⟨⟨b1, b2⟩, b3, b4⟩, ⟨b5, b6⟩, b7⟩, hB⟩ hlen
    clear e1 e2 e3 e4 e5 e6 e7 e8 hRd8 hRd
    have hx := x.isLt
    have hsn := sfx_snoc P pre x
    have hsum := Suf.cq_sum b (sfx P pre)
    have hl1 := hcl.out Suf.qlo (sfx P pre)
    have hl2 := hcl.out Suf.qhi (sfx P pre)
    have hyb := hP.out.get (L - 1 - x.val) (by rw [hLe.out]; omega)
    obtain ⟨z, hz⟩ : ∃ z : Nat, P.getD (L - 1 - x.val) 0 = (z : Int) := ⟨_, (Int.eq_ofNat_of_zero_le hyb.1).choose_spec⟩
    rw [hz] at hsn hyb ⊢
    have hz2 : z < 256 := by omega
    have hs1 := hstep.out Suf.qlo Suf.qlo_ok (sfx P pre) z
    have hs2 := hstep.out Suf.qhi Suf.qhi_ok (sfx P pre) z
    rw [← hsn] at hs1 hs2
    obtain ⟨lo, hlo⟩ : ∃ lo, Suf.cq Suf.qlo b (sfx P pre) = lo := ⟨_, rfl⟩
    obtain ⟨hi, hhi⟩ : ∃ hi, Suf.cq Suf.qhi b (sfx P pre) = hi := ⟨_, rfl⟩
    rw [hlo] at b1 hsum hl1 hs1
    rw [hhi] at b2 hsum hl2 hs2
    have hBx : Ext w W := hB
    have hRw : Rd8 W (.slice ad n cap) D := Rd.ext hR.out hBx
    have hbf1 := hbf.out lo (z : Int) hl1
    have hbf2 := hbf.out hi (z : Int) hl2
    obtain ⟨x1, hx1⟩ : ∃ x1, cntC D (rowN pr lo) (z : Int) = x1 := ⟨_, rfl⟩
    obtain ⟨x2, hx2⟩ : ∃ x2, cntC D (rowN pr hi) (z : Int) = x2 := ⟨_, rfl⟩
    rw [hx1] at hs1 hbf1
    rw [hx2] at hs2 hbf2
    have c1 := b4.cell z _ (iv_get _ z (by rw [stL_len]; exact hz2))
    rw [stL_get D z hz2] at c1
    have hq := st_bd D z
    have hq1 : x1 ≤ n := by rw [← hx1]; unfold cntC; exact Nat.le_trans List.countP_le_length (by rw [List.length_take, hDl.out]; omega)
    have hq2 : x2 ≤ n := by rw [← hx2]; unfold cntC; exact Nat.le_trans List.countP_le_length (by rw [List.length_take, hDl.out]; omega)
    obtain ⟨q, hqe⟩ : ∃ q, st D z = q := ⟨_, rfl⟩
    rw [hqe] at c1 hq hs1 hs2
    rw [hDl.out] at hq
    have q5 := hq.1
    have q6 : q ≤ 1001 := by omega
    have c2 := b3.cell 0 _ rfl
    have c3 := b3.cell 1 _ rfl
    have c4 := b1.cell 0 _ rfl
    have c5 := b2.cell 0 _ rfl
    have f4 := b1.frozen 0
    have f5 := b2.frozen 0
    have c6 := b5.cell 0 _ rfl
    have c7 := b6.cell 0 _ rfl
    have f6 := b5.frozen 0
    have f7 := b6.frozen 0
    obtain ⟨c0, hc0⟩ : ∃ c0, Suf.cnt b (sfx P pre) = c0 := ⟨_, rfl⟩
    rw [hc0] at hsum
    have z1 : (z : Int) < 256 := by omega
    replace hs1 := hidden hs1
    replace hs2 := hidden hs2
    replace hbf1 := hidden hbf1
    replace hbf2 := hidden hbf2
    replace hRw := hidden hRw
    replace hBx := hidden hBx
    replace b1 := hidden b1
    replace b2 := hidden b2
    replace b3 := hidden b3
    replace b4 := hidden b4
    replace b5 := hidden b5
    replace b6 := hidden b6
    replace b7 := hidden b7
    replace hc0 := hidden hc0
    clear hyb hz hlo hhi hx1 hx2 hqe hq hsn hlen hB hz2
    by_cases hge : hi ≤ lo
    · have d1 : (hi : Int) ≤ (lo : Int) := by omega
      have hz0 : c0 = 0 := by omega
      have hC : Chg [s, s + 1] W ((W.setCell ⟨s, 0, none⟩ (.int .i64 0)).setCell ⟨s + 1, 0, none⟩ (.int .i64 0)) := ((Chg.refl _ W).setCell (Or.inl (by simp)) _).setCell (Or.inl (by simp)) _
      have h6 := (b5.out.set 0 (.int .i64 0)).set_other (i := 0) (c := s + 1) (by omega) (.int .i64 0)
      have h7 := (b6.out.set_other (i := 0) (c := s) (by omega) (.int .i64 0)).set 0 (.int .i64 0)
      replace hC := hidden hC
      replace h6 := hidden h6
      replace h7 := hidden h7
      replace hz0 := hidden hz0
      gi_wp2
      refine ⟨(chg_keeps hC.out fun y hy o ho => ?_).from _, ⟨pre, x, rfl, by rw [hc0.out]; exact hz0.out, ⟨h6.out, h7.out⟩, rfl⟩, chg_below hBx.out hC.out (by intro y hy; rw [hs.out]; simp at hy; omega)⟩
      simp at hy
      rcases hy with rfl | rfl
      · have := b5.out; unfold Blk at this; rw [this] at ho; cases ho; rfl
      · have := b6.out; unfold Blk at this; rw [this] at ho; cases ho; rfl
    · have d1 : ¬ (hi : Int) ≤ (lo : Int) := by omega
      have v1 : IntKind.i64.wrap (q + (x1 : Int)) = q + (x1 : Int) := IntWalk.i64_in _ (by omega)
      have v2 : IntKind.i64.wrap (q + (x2 : Int)) = q + (x2 : Int) := IntWalk.i64_in _ (by omega)
      have fin : Hid (∀ u2, Ext W u2 → KeepsFrom W3.heap.size W ((u2.setCell ⟨sb + 1, 0, none⟩ (.int .i64 (q + (x1 : Int)))).setCell ⟨sb + 1 + 1, 0, none⟩ (.int .i64 (q + (x2 : Int)))) ∧ (KeepS ([sb + 1 + 1 + 1] ++ dataS (.slice pd L cp) L) W ((u2.setCell ⟨sb + 1, 0, none⟩ (.int .i64 (q + (x1 : Int)))).setCell ⟨sb + 1 + 1, 0, none⟩ (.int .i64 (q + (x2 : Int)))) ∧ W.heap.size ≤ ((u2.setCell ⟨sb + 1, 0, none⟩ (.int .i64 (q + (x1 : Int)))).setCell ⟨sb + 1 + 1, 0, none⟩ (.int .i64 (q + (x2 : Int)))).heap.size) ∧ (fun (pre : List (Fin L)) W => (((Blk W (sb + 1) 3 [.int .i64 (Suf.cq Suf.qlo b (sfx P pre) : Int)] ∧ Blk W (sb + 1 + 1) 3 [.int .i64 (Suf.cq Suf.qhi b (sfx P pre) : Int)]) ∧ (Blk W rb 46 [.slice ad n cap, .int .i64 (pr : Int)] ∧ Blk W sb 55 (iv (stL D)))) ∧ ((Blk W s 3 [.int .i64 0] ∧ Blk W (s + 1) 24 [.int .i64 0]) ∧ Blk W (sb + 1 + 1 + 1) 22 [.slice pd L cp])) ∧ Below w.heap.size w W) (pre ++ [x]) ((u2.setCell ⟨sb + 1, 0, none⟩ (.int .i64 (q + (x1 : Int)))).setCell ⟨sb + 1 + 1, 0, none⟩ (.int .i64 (q + (x2 : Int))))) := by
        refine hidden fun u2 hU => ?_
        have hC : Chg [sb + 1, sb + 1 + 1] W ((u2.setCell ⟨sb + 1, 0, none⟩ (.int .i64 (q + (x1 : Int)))).setCell ⟨sb + 1 + 1, 0, none⟩ (.int .i64 (q + (x2 : Int)))) := ((Chg.of_ext _ hU).setCell (Or.inl (by simp)) _).setCell (Or.inl (by simp)) _
        have hBs := hBx.out.size
        have l7 := b7.out.lt
        have l6 := b6.out.lt
        have hse := hs.out
        refine ⟨(chg_keeps hC fun y hy o ho => ?_).from _, ⟨KeepS.chg hC fun y hy => ?_, hC.size⟩, ⟨⟨⟨?_, ?_⟩, b3.out.chg hC (by simp; omega), b4.out.chg hC (by simp <;> omega)⟩, ⟨b5.out.chg hC (by simp; omega), b6.out.chg hC (by simp; omega)⟩, b7.out.chg hC (by simp; omega)⟩, chg_below hBx.out hC (by intro y hy; simp at hy; omega)⟩
        · simp at hy
          rcases hy with rfl | rfl
          · have := b1.out; unfold Blk at this; rw [this] at ho; cases ho; rfl
          · have := b2.out; unfold Blk at this; rw [this] at ho; cases ho; rfl
        · refine ⟨?_, by have := hnd.out y hy; simp; omega⟩
          rcases List.mem_append.1 hy with hy | hy
          · simp at hy; omega
          · have h8 := dataS_lt (v := .slice pd L cp) (D := P) hRP.out
            rw [hLe.out] at h8
            have := h8 y hy
            omega
        · rw [hs1.out]
          exact ((b1.out.ext hU).set 0 (.int .i64 (q + (x1 : Int)))).set_other (by omega) _
        · rw [hs2.out]
          exact ((b2.out.ext hU).set_other (i := 0) (c := sb + 1) (by omega) _).set 0 (.int .i64 (q + (x2 : Int)))
      gi_wp2
      refine wpIn_round_D (S := fun w' : World => w'.cell? ⟨sb, z, none⟩ = some (.int .i64 q) ∧ w'.cell? ⟨rb, 0, none⟩ = some (.slice ad n cap) ∧ w'.cell? ⟨rb, 1, none⟩ = some (.int .i64 (pr : Int))) (D := []) (by kernel_rfl) (fun ⟨_, _, h⟩ => (show False from h)) (by kernel_rfl) ⟨c1, c2, c3⟩ ?_
      intro HS
      refine takeD 0 [] (.int .u8 (z : Int)) rfl rfl (by kernel_rfl) (by kernel_rfl) (by kernel_rfl) (by kernel_rfl) (by decide) (by decide) (fun _ _ _ h => h) (by rfl) (fun w' hw' => by obtain ⟨s1, s2, s3⟩ := hw'; go_simp) HS ?_
      try simp only [List.setIfInBounds_toArray, List.set_cons_zero, List.set_cons_succ]
      refine takeD 1 [] (.pointer (some ⟨sb, z, none⟩)) rfl rfl (by kernel_rfl) (by kernel_rfl) (by kernel_rfl) (by kernel_rfl) (by decide) (by decide) (fun _ _ _ h => h) (by rfl) (fun w' hw' => by obtain ⟨s1, s2, s3⟩ := hw'; go_simp) HS ?_
      try simp only [List.setIfInBounds_toArray, List.set_cons_zero, List.set_cons_succ]
      refine takeD 2 [] (.int .i64 q) rfl rfl (by kernel_rfl) (by kernel_rfl) (by kernel_rfl) (by kernel_rfl) (by decide) (by decide) (fun _ _ _ h => h) (by rfl) (fun w' hw' => by obtain ⟨s1, s2, s3⟩ := hw'; go_simp) HS ?_
      try simp only [List.setIfInBounds_toArray, List.set_cons_zero, List.set_cons_succ]
      refine takeD 3 [] (.agg #[.slice ad n cap, .int .i64 (pr : Int)]) rfl rfl (by kernel_rfl) (by kernel_rfl) (by kernel_rfl) (by kernel_rfl) (by decide) (by decide) (fun _ _ _ h => h) (by rfl) (fun w' hw' => by obtain ⟨s1, s2, s3⟩ := hw'; go_simp) HS ?_
      try simp only [List.setIfInBounds_toArray, List.set_cons_zero, List.set_cons_succ]
      refine takeD 5 [] (.int .u8 (z : Int)) rfl rfl (by kernel_rfl) (by kernel_rfl) (by kernel_rfl) (by kernel_rfl) (by decide) (by decide) (fun _ _ _ h => h) (by rfl) (fun w' hw' => by obtain ⟨s1, s2, s3⟩ := hw'; go_simp) HS ?_
      try simp only [List.setIfInBounds_toArray, List.set_cons_zero, List.set_cons_succ]
      refine takeD 8 [] (.int .u8 (z : Int)) rfl rfl (by kernel_rfl) (by kernel_rfl) (by kernel_rfl) (by kernel_rfl) (by decide) (by decide) (fun _ _ _ h => h) (by rfl) (fun w' hw' => by obtain ⟨s1, s2, s3⟩ := hw'; go_simp) HS ?_
      try simp only [List.setIfInBounds_toArray, List.set_cons_zero, List.set_cons_succ]
      refine takeD 9 [] (.pointer (some ⟨sb, z, none⟩)) rfl rfl (by kernel_rfl) (by kernel_rfl) (by kernel_rfl) (by kernel_rfl) (by decide) (by decide) (fun _ _ _ h => h) (by rfl) (fun w' hw' => by obtain ⟨s1, s2, s3⟩ := hw'; go_simp) HS ?_
      try simp only [List.setIfInBounds_toArray, List.set_cons_zero, List.set_cons_succ]
      refine takeD 10 [] (.int .i64 q) rfl rfl (by kernel_rfl) (by kernel_rfl) (by kernel_rfl) (by kernel_rfl) (by decide) (by decide) (fun _ _ _ h => h) (by rfl) (fun w' hw' => by obtain ⟨s1, s2, s3⟩ := hw'; go_simp) HS ?_
      try simp only [List.setIfInBounds_toArray, List.set_cons_zero, List.set_cons_succ]
      refine takeD 11 [] (.agg #[.slice ad n cap, .int .i64 (pr : Int)]) rfl rfl (by kernel_rfl) (by kernel_rfl) (by kernel_rfl) (by kernel_rfl) (by decide) (by decide) (fun _ _ _ h => h) (by rfl) (fun w' hw' => by obtain ⟨s1, s2, s3⟩ := hw'; go_simp) HS ?_
      try simp only [List.setIfInBounds_toArray, List.set_cons_zero, List.set_cons_succ]
      refine takeD 13 [] (.int .u8 (z : Int)) rfl rfl (by kernel_rfl) (by kernel_rfl) (by kernel_rfl) (by kernel_rfl) (by decide) (by decide) (fun _ _ _ h => h) (by rfl) (fun w' hw' => by obtain ⟨s1, s2, s3⟩ := hw'; go_simp) HS ?_
      try simp only [List.setIfInBounds_toArray, List.set_cons_zero, List.set_cons_succ]
      refine wpAnyD_all (rs := [4, 12]) (by kernel_rfl) (by simp) ?_
      intro ii hmem
      rcases List.mem_cons.1 hmem with rfl | hmem
      · refine valueU 4 (.int .i64 (lo : Int)) rfl rfl (by rfl) (w' := W.drew) (by have := c4; go_simp) (fun _ => HS) ?_
        try simp only [List.setIfInBounds_toArray, List.set_cons_zero, List.set_cons_succ]
        refine wpAnyD_all (rs := [6, 12]) (by kernel_rfl) (by simp) ?_
        intro ii hmem
        rcases List.mem_cons.1 hmem with rfl | hmem
        · refine callU 6 32 #[.agg #[.slice ad n cap, .int .i64 (pr : Int)], .int .i64 (lo : Int), .int .u8 (z : Int)] rfl rfl (by rfl) (by go_simp) (hbf1.out W.drew (Rd.ext hRw.out (Ext.refl W).drew)) ?_
          rintro e u1 ⟨rfl, hU1⟩
          have HS1 : (fun w' : World => w'.cell? ⟨sb, z, none⟩ = some (.int .i64 q) ∧ w'.cell? ⟨rb, 0, none⟩ = some (.slice ad n cap) ∧ w'.cell? ⟨rb, 1, none⟩ = some (.int .i64 (pr : Int))) u1 := ⟨hU1.cell c1, hU1.cell c2, hU1.cell c3⟩
          refine Or.inl ⟨_, rfl, fun _ => HS1, ?_⟩
          try simp only [List.setIfInBounds_toArray, List.set_cons_zero, List.set_cons_succ]
          refine takeD 7 [] (.int .i64 (q + (x1 : Int))) rfl rfl (by kernel_rfl) (by kernel_rfl) (by kernel_rfl) (by kernel_rfl) (by decide) (by decide) (fun _ _ _ h => h) (by rfl) (fun w' hw' => by obtain ⟨s1, s2, s3⟩ := hw'; go_simp) HS1 ?_
          try simp only [List.setIfInBounds_toArray, List.set_cons_zero, List.set_cons_succ]
          refine valueD 12 (.int .i64 (hi : Int)) rfl rfl (by kernel_rfl) (by rfl) (w' := u1) (by have := hU1.cell c5; go_simp) (fun _ => HS1) ?_
          try simp only [List.setIfInBounds_toArray, List.set_cons_zero, List.set_cons_succ]
          refine callVD 14 32 #[.agg #[.slice ad n cap, .int .i64 (pr : Int)], .int .i64 (hi : Int), .int .u8 (z : Int)] rfl rfl (by kernel_rfl) (by rfl) (by go_simp) (hbf2.out u1 (Rd.ext hRw.out ((Ext.refl W).drew.trans hU1))) ?_
          rintro e u2 ⟨rfl, hU2⟩
          have hU3 := hU1.trans hU2
          have HS2 : (fun w' : World => w'.cell? ⟨sb, z, none⟩ = some (.int .i64 q) ∧ w'.cell? ⟨rb, 0, none⟩ = some (.slice ad n cap) ∧ w'.cell? ⟨rb, 1, none⟩ = some (.int .i64 (pr : Int))) u2 := ⟨hU3.cell c1, hU3.cell c2, hU3.cell c3⟩
          refine Or.inl ⟨_, rfl, fun _ => HS2, ?_⟩
          try simp only [List.setIfInBounds_toArray, List.set_cons_zero, List.set_cons_succ]
          refine takeD 15 [] (.int .i64 (q + (x2 : Int))) rfl rfl (by kernel_rfl) (by kernel_rfl) (by kernel_rfl) (by kernel_rfl) (by decide) (by decide) (fun _ _ _ h => h) (by rfl) (fun w' hw' => by obtain ⟨s1, s2, s3⟩ := hw'; go_simp) HS2 ?_
          try simp only [List.setIfInBounds_toArray, List.set_cons_zero, List.set_cons_succ]
          have hU4 : Ext W u2 := (Ext.refl W).drew.trans hU3
          have g4 := hU3.cell c4
          have g5 := hU3.cell c5
          have k4 := hU4.frozen c4 f4
          have k5 := hU4.frozen c5 f5
          have HS3 : (fun w' : World => w'.cell? ⟨sb, z, none⟩ = some (.int .i64 q) ∧ w'.cell? ⟨rb, 0, none⟩ = some (.slice ad n cap) ∧ w'.cell? ⟨rb, 1, none⟩ = some (.int .i64 (pr : Int))) (u2.setCell ⟨sb + 1, 0, none⟩ (.int .i64 (q + (x1 : Int)))) := ⟨set_other (by simp) HS2.1, set_other (by simp <;> omega) HS2.2.1, set_other (by simp) HS2.2.2⟩
          refine storeD 16 rfl rfl (by kernel_rfl) (by rfl) (w' := u2.setCell ⟨sb + 1, 0, none⟩ (.int .i64 (q + (x1 : Int)))) (by go_simp) (fun _ => HS3) ?_
          have g6 : (u2.setCell ⟨sb + 1, 0, none⟩ (.int .i64 (q + (x1 : Int)))).cell? ⟨sb + 1 + 1, 0, none⟩ = some (.int .i64 (hi : Int)) := set_other (by simp) g5
          have k6 : (u2.setCell ⟨sb + 1, 0, none⟩ (.int .i64 (q + (x1 : Int)))).frozen? ⟨sb + 1 + 1, 0, none⟩ = false := by rw [World.frozen?_setCell]; exact k5
          refine storeD 17 rfl rfl (by kernel_rfl) (by rfl) (w' := (u2.setCell ⟨sb + 1, 0, none⟩ (.int .i64 (q + (x1 : Int)))).setCell ⟨sb + 1 + 1, 0, none⟩ (.int .i64 (q + (x2 : Int)))) (by go_simp) (fun _ => ⟨set_other (by simp <;> omega) HS3.1, set_other (by simp <;> omega) HS3.2.1, set_other (by simp) HS3.2.2⟩) ?_
          refine wpAnyD_done (by kernel_rfl) ?_ _
          show KeepsFrom _ _ _ ∧ _ ∧ _
          exact fin.out u2 hU4
        · obtain rfl : ii = 12 := by simpa using hmem
          refine valueU 12 (.int .i64 (hi : Int)) rfl rfl (by rfl) (w' := W.drew) (by have := c5; go_simp) (fun _ => HS) ?_
          try simp only [List.setIfInBounds_toArray, List.set_cons_zero, List.set_cons_succ]
          refine callVD 6 32 #[.agg #[.slice ad n cap, .int .i64 (pr : Int)], .int .i64 (lo : Int), .int .u8 (z : Int)] rfl rfl (by kernel_rfl) (by rfl) (by go_simp) (hbf1.out W.drew (Rd.ext hRw.out (Ext.refl W).drew)) ?_
          rintro e u1 ⟨rfl, hU1⟩
          have HS1 : (fun w' : World => w'.cell? ⟨sb, z, none⟩ = some (.int .i64 q) ∧ w'.cell? ⟨rb, 0, none⟩ = some (.slice ad n cap) ∧ w'.cell? ⟨rb, 1, none⟩ = some (.int .i64 (pr : Int))) u1 := ⟨hU1.cell c1, hU1.cell c2, hU1.cell c3⟩
          refine Or.inl ⟨_, rfl, fun _ => HS1, ?_⟩
          try simp only [List.setIfInBounds_toArray, List.set_cons_zero, List.set_cons_succ]
          refine takeD 7 [] (.int .i64 (q + (x1 : Int))) rfl rfl (by kernel_rfl) (by kernel_rfl) (by kernel_rfl) (by kernel_rfl) (by decide) (by decide) (fun _ _ _ h => h) (by rfl) (fun w' hw' => by obtain ⟨s1, s2, s3⟩ := hw'; go_simp) HS1 ?_
          try simp only [List.setIfInBounds_toArray, List.set_cons_zero, List.set_cons_succ]
          refine callVD 14 32 #[.agg #[.slice ad n cap, .int .i64 (pr : Int)], .int .i64 (hi : Int), .int .u8 (z : Int)] rfl rfl (by kernel_rfl) (by rfl) (by go_simp) (hbf2.out u1 (Rd.ext hRw.out ((Ext.refl W).drew.trans hU1))) ?_
          rintro e u2 ⟨rfl, hU2⟩
          have hU3 := hU1.trans hU2
          have HS2 : (fun w' : World => w'.cell? ⟨sb, z, none⟩ = some (.int .i64 q) ∧ w'.cell? ⟨rb, 0, none⟩ = some (.slice ad n cap) ∧ w'.cell? ⟨rb, 1, none⟩ = some (.int .i64 (pr : Int))) u2 := ⟨hU3.cell c1, hU3.cell c2, hU3.cell c3⟩
          refine Or.inl ⟨_, rfl, fun _ => HS2, ?_⟩
          try simp only [List.setIfInBounds_toArray, List.set_cons_zero, List.set_cons_succ]
          refine takeD 15 [] (.int .i64 (q + (x2 : Int))) rfl rfl (by kernel_rfl) (by kernel_rfl) (by kernel_rfl) (by kernel_rfl) (by decide) (by decide) (fun _ _ _ h => h) (by rfl) (fun w' hw' => by obtain ⟨s1, s2, s3⟩ := hw'; go_simp) HS2 ?_
          try simp only [List.setIfInBounds_toArray, List.set_cons_zero, List.set_cons_succ]
          have hU4 : Ext W u2 := (Ext.refl W).drew.trans hU3
          have g4 := hU3.cell c4
          have g5 := hU3.cell c5
          have k4 := hU4.frozen c4 f4
          have k5 := hU4.frozen c5 f5
          have HS3 : (fun w' : World => w'.cell? ⟨sb, z, none⟩ = some (.int .i64 q) ∧ w'.cell? ⟨rb, 0, none⟩ = some (.slice ad n cap) ∧ w'.cell? ⟨rb, 1, none⟩ = some (.int .i64 (pr : Int))) (u2.setCell ⟨sb + 1, 0, none⟩ (.int .i64 (q + (x1 : Int)))) := ⟨set_other (by simp) HS2.1, set_other (by simp <;> omega) HS2.2.1, set_other (by simp) HS2.2.2⟩
          refine storeD 16 rfl rfl (by kernel_rfl) (by rfl) (w' := u2.setCell ⟨sb + 1, 0, none⟩ (.int .i64 (q + (x1 : Int)))) (by go_simp) (fun _ => HS3) ?_
          have g6 : (u2.setCell ⟨sb + 1, 0, none⟩ (.int .i64 (q + (x1 : Int)))).cell? ⟨sb + 1 + 1, 0, none⟩ = some (.int .i64 (hi : Int)) := set_other (by simp) g5
          have k6 : (u2.setCell ⟨sb + 1, 0, none⟩ (.int .i64 (q + (x1 : Int)))).frozen? ⟨sb + 1 + 1, 0, none⟩ = false := by rw [World.frozen?_setCell]; exact k5
          refine storeD 17 rfl rfl (by kernel_rfl) (by rfl) (w' := (u2.setCell ⟨sb + 1, 0, none⟩ (.int .i64 (q + (x1 : Int)))).setCell ⟨sb + 1 + 1, 0, none⟩ (.int .i64 (q + (x2 : Int)))) (by go_simp) (fun _ => ⟨set_other (by simp <;> omega) HS3.1, set_other (by simp <;> omega) HS3.2.1, set_other (by simp) HS3.2.2⟩) ?_
          refine wpAnyD_done (by kernel_rfl) ?_ _
          show KeepsFrom _ _ _ ∧ _ ∧ _
          exact fin.out u2 hU4
      · obtain rfl : ii = 12 := by simpa using hmem
        refine valueU 12 (.int .i64 (hi : Int)) rfl rfl (by rfl) (w' := W.drew) (by have := c5; go_simp) (fun _ => HS) ?_
        try simp only [List.setIfInBounds_toArray, List.set_cons_zero, List.set_cons_succ]
        refine valueD 4 (.int .i64 (lo : Int)) rfl rfl (by kernel_rfl) (by rfl) (w' := W.drew) (by have := c4; go_simp) (fun _ => HS) ?_
        try simp only [List.setIfInBounds_toArray, List.set_cons_zero, List.set_cons_succ]
        refine callVD 6 32 #[.agg #[.slice ad n cap, .int .i64 (pr : Int)], .int .i64 (lo : Int), .int .u8 (z : Int)] rfl rfl (by kernel_rfl) (by rfl) (by go_simp) (hbf1.out W.drew (Rd.ext hRw.out (Ext.refl W).drew)) ?_
        rintro e u1 ⟨rfl, hU1⟩
        have HS1 : (fun w' : World => w'.cell? ⟨sb, z, none⟩ = some (.int .i64 q) ∧ w'.cell? ⟨rb, 0, none⟩ = some (.slice ad n cap) ∧ w'.cell? ⟨rb, 1, none⟩ = some (.int .i64 (pr : Int))) u1 := ⟨hU1.cell c1, hU1.cell c2, hU1.cell c3⟩
        refine Or.inl ⟨_, rfl, fun _ => HS1, ?_⟩
        try simp only [List.setIfInBounds_toArray, List.set_cons_zero, List.set_cons_succ]
        refine takeD 7 [] (.int .i64 (q + (x1 : Int))) rfl rfl (by kernel_rfl) (by kernel_rfl) (by kernel_rfl) (by kernel_rfl) (by decide) (by decide) (fun _ _ _ h => h) (by rfl) (fun w' hw' => by obtain ⟨s1, s2, s3⟩ := hw'; go_simp) HS1 ?_
        try simp only [List.setIfInBounds_toArray, List.set_cons_zero, List.set_cons_succ]
        refine callVD 14 32 #[.agg #[.slice ad n cap, .int .i64 (pr : Int)], .int .i64 (hi : Int), .int .u8 (z : Int)] rfl rfl (by kernel_rfl) (by rfl) (by go_simp) (hbf2.out u1 (Rd.ext hRw.out ((Ext.refl W).drew.trans hU1))) ?_
        rintro e u2 ⟨rfl, hU2⟩
        have hU3 := hU1.trans hU2
        have HS2 : (fun w' : World => w'.cell? ⟨sb, z, none⟩ = some (.int .i64 q) ∧ w'.cell? ⟨rb, 0, none⟩ = some (.slice ad n cap) ∧ w'.cell? ⟨rb, 1, none⟩ = some (.int .i64 (pr : Int))) u2 := ⟨hU3.cell c1, hU3.cell c2, hU3.cell c3⟩
        refine Or.inl ⟨_, rfl, fun _ => HS2, ?_⟩
        try simp only [List.setIfInBounds_toArray, List.set_cons_zero, List.set_cons_succ]
        refine takeD 15 [] (.int .i64 (q + (x2 : Int))) rfl rfl (by kernel_rfl) (by kernel_rfl) (by kernel_rfl) (by kernel_rfl) (by decide) (by decide) (fun _ _ _ h => h) (by rfl) (fun w' hw' => by obtain ⟨s1, s2, s3⟩ := hw'; go_simp) HS2 ?_
        try simp only [List.setIfInBounds_toArray, List.set_cons_zero, List.set_cons_succ]
        have hU4 : Ext W u2 := (Ext.refl W).drew.trans hU3
        have g4 := hU3.cell c4
        have g5 := hU3.cell c5
        have k4 := hU4.frozen c4 f4
        have k5 := hU4.frozen c5 f5
        have HS3 : (fun w' : World => w'.cell? ⟨sb, z, none⟩ = some (.int .i64 q) ∧ w'.cell? ⟨rb, 0, none⟩ = some (.slice ad n cap) ∧ w'.cell? ⟨rb, 1, none⟩ = some (.int .i64 (pr : Int))) (u2.setCell ⟨sb + 1, 0, none⟩ (.int .i64 (q + (x1 : Int)))) := ⟨set_other (by simp) HS2.1, set_other (by simp <;> omega) HS2.2.1, set_other (by simp) HS2.2.2⟩
        refine storeD 16 rfl rfl (by kernel_rfl) (by rfl) (w' := u2.setCell ⟨sb + 1, 0, none⟩ (.int .i64 (q + (x1 : Int)))) (by go_simp) (fun _ => HS3) ?_
        have g6 : (u2.setCell ⟨sb + 1, 0, none⟩ (.int .i64 (q + (x1 : Int)))).cell? ⟨sb + 1 + 1, 0, none⟩ = some (.int .i64 (hi : Int)) := set_other (by simp) g5
        have k6 : (u2.setCell ⟨sb + 1, 0, none⟩ (.int .i64 (q + (x1 : Int)))).frozen? ⟨sb + 1 + 1, 0, none⟩ = false := by rw [World.frozen?_setCell]; exact k5
        refine storeD 17 rfl rfl (by kernel_rfl) (by rfl) (w' := (u2.setCell ⟨sb + 1, 0, none⟩ (.int .i64 (q + (x1 : Int)))).setCell ⟨sb + 1 + 1, 0, none⟩ (.int .i64 (q + (x2 : Int)))) (by go_simp) (fun _ => ⟨set_other (by simp <;> omega) HS3.1, set_other (by simp <;> omega) HS3.2.1, set_other (by simp) HS3.2.2⟩) ?_
        refine wpAnyD_done (by kernel_rfl) ?_ _
        show KeepsFrom _ _ _ ∧ _ ∧ _
        exact fin.out u2 hU4
  case done =>
    rintro E ys W hD rfl ⟨⟨⟨⟨b1, b2⟩, b3, b4⟩, ⟨b5, b6⟩, b7⟩, hB⟩ hK
    rw [sfx_all P hLe.out] at b1 b2
    have hsum := Suf.cq_sum b P
    have hl1 := hcl.out Suf.qlo P
    have hl2 := hcl.out Suf.qhi P
    obtain ⟨lo, hlo⟩ : ∃ lo, Suf.cq Suf.qlo b P = lo := ⟨_, rfl⟩
    obtain ⟨hi, hhi⟩ : ∃ hi, Suf.cq Suf.qhi b P = hi := ⟨_, rfl⟩
    obtain ⟨c0, hc0⟩ : ∃ c0, Suf.cnt b P = c0 := ⟨_, rfl⟩
    rw [hlo] at b1 hsum hl1
    rw [hhi] at b2 hsum hl2
    rw [hc0] at hsum hKK ⊢
    have c4 := b1.cell 0 _ rfl
    have c5 := b2.cell 0 _ rfl
    have c6 := b5.cell 0 _ rfl
    have c7 := b6.cell 0 _ rfl
    have f6 := b5.frozen 0
    have f7 := b6.frozen 0
    have v1 : IntKind.i64.wrap ((hi : Int) - (lo : Int)) = (c0 : Int) := by rw [IntWalk.i64_in _ (by omega)]; omega
    have v2 : max (0 : Int) (c0 : Int) = (c0 : Int) := by omega
    have hC : Chg [s, s + 1] W ((W.setCell ⟨s, 0, none⟩ (.int .i64 (c0 : Int))).setCell ⟨s + 1, 0, none⟩ (.int .i64 0)) := ((Chg.refl _ W).setCell (Or.inl (by simp)) _).setCell (Or.inl (by simp)) _
    have h6 := (b5.set 0 (.int .i64 (c0 : Int))).set_other (i := 0) (c := s + 1) (by omega) (.int .i64 0)
    have h7 := (b6.set_other (i := 0) (c := s) (by omega) (.int .i64 (c0 : Int))).set 0 (.int .i64 0)
    rw [hsz3.out] at hD
    have hse := hs.out
    have hK2 := hC.heap (b := E) (by simp; omega) hK
    have hBl := chg_below hB hC (by intro y hy; simp at hy; omega)
    replace hsum := hidden hsum
    clear hlo hhi hc0 hl1 hl2
    replace h6 := hidden h6
    replace h7 := hidden h7
    replace hK2 := hidden hK2
    replace hBl := hidden hBl
    clear hC
    go_wp2_with fail
    have g6 := h6.out
    have g7 := h7.out
    obtain ⟨W9, hW9⟩ : ∃ X, (W.setCell ⟨s, 0, none⟩ (.int .i64 (c0 : Int))).setCell ⟨s + 1, 0, none⟩ (.int .i64 0) = X := ⟨_, rfl⟩
    have hK9 := hK2.out
    have hB9 := hBl.out
    rw [hW9] at g6 g7 hK9 hB9 ⊢
    refine ⟨by simp, .inl ⟨_, _, rfl, run_takeDeferred hK9, ?_⟩⟩
    have p6 : Blk (W9.putObj E (.deferred none)) s 3 [.int .i64 (c0 : Int)] := by unfold Blk; rw [World.putObj_heap_other (fun e => by omega)]; exact g6
    have p7 : Blk (W9.putObj E (.deferred none)) (s + 1) 24 [.int .i64 0] := by unfold Blk; rw [World.putObj_heap_other (fun e => by omega)]; exact g7
    have q6 := p6.cell 0 _ rfl
    have q7 := p7.cell 0 _ rfl
    refine ⟨.tuple #[.int .i64 (c0 : Int), .int .i64 0], by simp [results, Try.f12, go_sem, q6, q7], rfl, ?_⟩
    exact hB9.trans (belowK_b (n₀ := w.heap.size) (w := w) (Nat.le_refl _) W9 E _ (.deferred none) (by omega) hK9 rfl rfl)
  case stop =>
    rintro E cd pre W hD ⟨k, hk, rfl⟩ ⟨⟨ini, x, h1, h2, ⟨b5, b6⟩, rfl⟩, hB⟩ hK
    obtain ⟨rfl, hk2⟩ := up_snoc hk h1.symm
    have hz := cnt_zero_up hLe.out (Nat.le_of_lt x.isLt) h2
    rw [hz] at hKK ⊢
    clear h1 h2 hk2 hz
    rw [hsz3.out] at hD
    have hse := hs.out
    replace b5 := hidden b5
    replace b6 := hidden b6
    replace hK := hidden hK
    refine wpIn_wide.2 ?_
    go_wp2_with fail
    refine ⟨by simp, .inl ⟨_, _, rfl, run_takeDeferred hK.out, ?_⟩⟩
    have p6 : Blk (W.putObj E (.deferred none)) s 3 [.int .i64 0] := by unfold Blk; rw [World.putObj_heap_other (fun e => by omega)]; exact b5.out
    have p7 : Blk (W.putObj E (.deferred none)) (s + 1) 24 [.int .i64 0] := by unfold Blk; rw [World.putObj_heap_other (fun e => by omega)]; exact b6.out
    have q6 := p6.cell 0 _ rfl
    have q7 := p7.cell 0 _ rfl
    refine ⟨.tuple #[.int .i64 0, .int .i64 0], by simp [results, Try.f12, go_sem, q6, q7], rfl, ?_⟩
    exact hB.trans (belowK_b (n₀ := w.heap.size) (w := w) (Nat.le_refl _) W E _ (.deferred none) (by omega) hK.out rfl rfl)
end Go.Proofs.Ytfebgcbkadmgiaa
