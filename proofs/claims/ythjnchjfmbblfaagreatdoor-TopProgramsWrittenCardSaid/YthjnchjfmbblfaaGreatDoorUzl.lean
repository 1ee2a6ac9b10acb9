/- index. -/
import Derived.Test.YthjnchjfmbblfaaGreatDoorUzd
import Derived.Defers
import Derived.Recover
namespace Go.Proofs.YthjnchjfmbblfaaGreatDoor
open Go.RowKit Go.ChangeMaps Go.MapKept
set_option linter.unusedVariables false
set_option linter.unusedSimpArgs false
attribute [local go_sem ↓] Go.wp_at_zero Go.wp_at_succ

set_option maxHeartbeats 8000000 in
set_option maxRecDepth 100000 in
theorem index_any (B r m e : Nat) (L : List (List UInt8)) (vl : Value) (s : Src.RS) (w : World) (hR : RMem w B r m e s) (hb : ∀ x ∈ s.ws, x.1.length ≤ 8192) (hvl : Rd w 1 vl L.length (L.map sv)) (hvr : vl.ownBlock ≠ some r) (hL : L.length ≤ 1000000) :
    Calls Tryz.prog 58 #[.pointer (some ⟨r, 0, none⟩), vl] w (StepP B r m e (fun k : Nat => .int .i64 (k : Int)) (Src.indexF e L s) w) := by
  have hnm := name_any B r m e s w hR hb
  obtain ⟨a, cap, rfl, -⟩ := Rd.shape hvl
  cases hnf : Src.nameF e s with
  | error c =>
    rw [hnf] at hnm
    unfold StepP at hnm
    simp only [failW] at hnm
    have hfr : Src.indexF e L s = .error c := by unfold Src.indexF; rw [hnf]
    rw [hfr]
    replace hnm := hidden hnm
    clear hvl hvr
    go_enter Tryz.func58, Tryz.ntmps58
    go_wp2_with fail
    refine (hnm.out).mono ?_
    rintro x w2 ⟨rfl, hC2⟩
    go_wp2
    exact ⟨rfl, rfl, hC2⟩
  | ok a =>
    obtain ⟨⟨tx, pl⟩, s'⟩ := a
    rw [hnf] at hnm
    unfold StepP at hnm
    obtain ⟨T, hT⟩ : ∃ T : ByteArray, ba tx = T := ⟨_, rfl⟩
    have hv : vW (tx, pl) = .agg #[.string T, .int .i64 (pl : Int)] := by rw [← hT]; rfl
    simp only [hv] at hnm
    have hfr : Src.indexF e L s = if tx ∈ L then .ok (L.idxOf tx, s') else .error (pl, 7) := by unfold Src.indexF; rw [hnf]
    have hf := demand_false T (pl : Int) 7
    simp only [failW] at hf
    have ht := demand_true T (pl : Int) 7
    replace hnm := hidden hnm
    replace hf := hidden hf
    replace ht := hidden ht
    replace hfr := hidden hfr
    replace hvl := hidden hvl
    replace hvr := hidden hvr
    clear hR hb hnf hv
    go_enter Tryz.func58, Tryz.ntmps58
    go_wp2_with fail
    refine (hnm.out).mono ?_
    rintro x w2 ⟨rfl, hR2, hC2⟩
    have hR3 := hidden hR2
    have hC3 := hidden hC2
    obtain ⟨w3, hw3⟩ : ∃ w3, w2.alloc (.cells #[.string T, .int .i64 (pl : Int)] 86) = w3 := ⟨_, rfl⟩
    obtain ⟨q3, hq3⟩ : ∃ q, w2.heap.size = q := ⟨_, rfl⟩
    have X3 : Ext w2 w3 := by rw [← hw3]; exact (Ext.refl w2).alloc _
    have HB3 : Blk w3 q3 86 [.string T, .int .i64 (pl : Int)] := by rw [← hw3]; exact blk_newAt' w2 _ _ _ hq3
    have c0 := HB3.cell 0 _ rfl
    have c1 := HB3.cell 1 _ rfl
    have hix := idx_strs _ L tx w3 ((Rd.chg hvl.out hC2 (fun x hx _ => by simp at hx; rw [hx]; exact hvr.out)).ext X3) hL
    rw [hT] at hix
    have Y3 := hidden X3
    clear hR2 hC2 X3 HB3 hT
    by_cases hm : tx ∈ L
    · rw [if_pos hm] at hix
      have hfr2 : Hid (Src.indexF e L s = .ok (L.idxOf tx, s')) := hidden (by rw [hfr.out, if_pos hm])
      obtain ⟨k, hk⟩ : ∃ k, L.idxOf tx = k := ⟨_, rfl⟩
      rw [hk] at hix hfr2
      replace hix := hidden hix
      clear hk hm
      go_wp2_with fail
      refine (hix.out).mono ?_
      rintro x w4 ⟨rfl, hw4⟩
      rw [hw4]
      clear hw4 w4
      go_wp2_with fail
      refine (ht.out _).mono ?_
      rintro x w7 ⟨rfl, X7⟩
      go_wp2_with fail
      refine bodyPost_ret (results_tmp rfl _ _ _) rfl ?_
      unfold StepP
      rw [hfr2.out]
      exact ⟨rfl, hR3.out.ext (Y3.out.trans X7), hC3.out.trans (Chg.of_ext [] (Y3.out.trans X7)) (by simp)⟩
    · rw [if_neg hm] at hix
      have hfr2 : Hid (Src.indexF e L s = .error (pl, 7)) := hidden (by rw [hfr.out, if_neg hm])
      replace hix := hidden hix
      clear hm
      go_wp2_with fail
      refine (hix.out).mono ?_
      rintro x w4 ⟨rfl, hw4⟩
      rw [hw4]
      clear hw4 w4
      go_wp2_with fail
      refine (hf.out _).mono ?_
      rintro x w7 ⟨rfl, X7⟩
      go_wp2
      refine ⟨rfl, ?_⟩
      unfold StepP
      rw [hfr2.out]
      exact ⟨rfl, hC3.out.trans (Chg.of_ext [] (Y3.out.trans X7)) (by simp)⟩
end Go.Proofs.YthjnchjfmbblfaaGreatDoor

/- value. -/
namespace Go.Proofs.YthjnchjfmbblfaaGreatDoor
open Go.RowKit Go.ChangeMaps Go.MapKept
set_option linter.unusedVariables false
set_option linter.unusedSimpArgs false
attribute [local go_sem ↓] Go.wp_at_zero Go.wp_at_succ

/-- The sentinel of package strconv lies apart from the reader. -/
structure EG (B r m : Nat) (w : World) : Prop where
  err : ErrR w
  ne : 3 ≠ r ∧ 3 ≠ m
  lo : 3 < B
theorem EG.chg {B r m : Nat} {w w' : World} {S : List Nat} (h : EG B r m w) (k : Chg S w w') (hS : 3 ∉ S) : EG B r m w' := by
  obtain ⟨ev, h1, h2⟩ := h.err
  exact ⟨⟨ev, k.cell hS h1, h2⟩, h.ne, h.lo⟩
/-- What value leaves: the number, and the word with its place. -/
def ValP (B r m e : Nat) (R : Src.RE ((Nat × Nat) × Src.RS)) (w : World) (x : Ending) (w' : World) : Prop := match R with
  | .ok a => (∃ T : ByteArray, x = .returned (.tuple #[.int .i64 (a.1.1 : Int), .agg #[.string T, .int .i64 (a.1.2 : Int)]])) ∧ ReadP B r m e a.2 w w'
  | .error c => x = failW (c.1 : Int) c.2 ∧ Chg [r] w w'
theorem results_tmp_row {P : Program} {fn : Func} {u p : Tmp} {ty : TypeId} (h : fn.results = #[.tmp u, .cell p ty]) (tmps : Array Value) (w : World) (v : Value) (hv : tmps.getD u undef = v) (g : Nat) (t : TypeId) (cs : Array Value) (fr : Nat × Nat) (d : TypeDesc)
    (hp : tmps.getD p undef = .pointer (some ⟨g, 0, none⟩)) (hg : w.heap[g]? = some (.cells cs t fr))
    (hu : P.underlying ty = some d) (hd : (match d with | .struct _ | .array _ _ => true | _ => false) = true) (hi : (P.info? ty).map (·.size) = some cs.size) :
    (results fn tmps).run P w = .ok (.tuple #[v, .agg cs]) w := by
  have hp' : tmps[p]?.getD undef = .pointer (some ⟨g, 0, none⟩) := by simpa using hp
  have hv' : tmps[u]?.getD undef = v := by simpa using hv
  simp [results, h, hp', hv', asAddr, run_loadVar_row w g t ty cs fr d hg hu hd hi]
-- VALUE
set_option maxHeartbeats 16000000 in
set_option maxRecDepth 100000 in
theorem value_any (B r m e : Nat) (s : Src.RS) (w : World) (hR : RMem w B r m e s) (hb : ∀ x ∈ s.ws, x.1.length ≤ 8192) (hE : EG B r m w) :
    Calls Tryz.prog 57 #[.pointer (some ⟨r, 0, none⟩)] w (ValP B r m e (Src.valueF e s) w) := by
  have X0 : Ext w (w.alloc (.cells #[.string ⟨#[]⟩, .int .i64 0] 86)) := (Ext.refl w).alloc _
  have hR1 := hR.ext X0
  have HB0 := Blk.new w [.string ⟨#[]⟩, .int .i64 0] 86
  obtain ⟨w1, hw1⟩ : ∃ w1, w.alloc (.cells #[.string ⟨#[]⟩, .int .i64 0] 86) = w1 := ⟨_, rfl⟩
  obtain ⟨q, hq⟩ : ∃ q, w.heap.size = q := ⟨_, rfl⟩
  have hs1 : w1.heap.size = q + 1 := by rw [← hw1, ← hq]; simp
  have hBq : Hid (B ≤ q ∧ r < q) := hidden (by obtain ⟨_, _, _, _, _, h⟩ := hR; rw [← hq]; exact ⟨h.BS, by have := h.rB; have := h.BS; omega⟩)
  rw [hq] at HB0
  rw [hw1] at HB0 X0 hR1
  have hb' := hidden hb
  have hEx := hE.err.ext X0
  obtain ⟨vw, vA, vC, va, vl, h⟩ := hR1
  have hws := h.ws
  obtain ⟨a, cap, hva, c1, c2, c3⟩ := Rd.shape hws
  subst hva
  have p0 := h.blk.cell 0 _ rfl
  have hRx0 : Hid (RMem w1 B r m e s) := hidden ⟨_, _, _, _, _, h⟩
  have HQ0 := hidden HB0
  have X1 := hidden X0
  clear hR hE HB0 X0 c1 c2 c3 hb
  have hb := hb'
  clear hb'
  obtain ⟨l, hl⟩ : ∃ l, s.ws = l := ⟨_, rfl⟩
  rw [hl] at hws p0
  cases l with
  | nil =>
    have hvf : Hid (Src.valueF e s = match Src.nameF e s with | .error x => .error x | .ok (w, s') => match Src.conF s'.con w.1 with | some n => .ok ((n, w.2), s') | none => .error (w.2, 7)) := hidden (by unfold Src.valueF; rw [hl]; rfl)
    have X := X1
    have HQ := HQ0
    have hRx := hRx0
    obtain ⟨wx, hwx⟩ : ∃ wx, w1 = wx := ⟨_, rfl⟩
    rw [hwx] at X HQ hRx p0 hw1
    clear X1 HQ0 hRx0 h hws hEx hs1 hwx
    go_enter Tryz.func57, Tryz.ntmps57
    go_upto_region 5 with fail
    have hnm := name_any B r m e s wx hRx.out hb.out
    cases hnf : Src.nameF e s with
    | error c =>
      rw [hnf] at hnm
      unfold StepP at hnm
      simp only [failW] at hnm
      have hfr : Hid (Src.valueF e s = .error c) := hidden (by rw [hvf.out, hnf])
      replace hnm := hidden hnm
      go_wp2_with fail
      refine (hnm.out).mono ?_
      rintro x w2 ⟨rfl, hC2⟩
      have hC := (Chg.of_ext [r] X.out).trans hC2 (fun x hx => Or.inl hx)
      go_wp2
      refine ⟨rfl, ?_⟩
      unfold ValP
      rw [hfr.out]
      exact ⟨rfl, hC⟩
    | ok a =>
      obtain ⟨⟨tx, pl⟩, s'⟩ := a
      rw [hnf] at hnm
      unfold StepP at hnm
      obtain ⟨T, hT⟩ : ∃ T : ByteArray, ba tx = T := ⟨_, rfl⟩
      have hv : vW (tx, pl) = .agg #[.string T, .int .i64 (pl : Int)] := by rw [← hT]; rfl
      simp only [hv] at hnm
      have hfr : Hid (Src.valueF e s = match Src.conF s'.con tx with | some n => .ok ((n, pl), s') | none => .error (pl, 7)) := hidden (by rw [hvf.out, hnf])
      have hf := demand_false T (pl : Int) 7
      simp only [failW] at hf
      have ht := demand_true T (pl : Int) 7
      replace hnm := hidden hnm
      replace hf := hidden hf
      replace ht := hidden ht
      clear hnf hv
      go_wp2_with fail
      refine (hnm.out).mono ?_
      rintro x w2 ⟨rfl, hR2, hC2⟩
      have X2 := hidden ((Chg.of_ext [r] X.out).trans hC2 (fun x hx => Or.inl hx))
      have HB2 := HQ.out.chg hC2 (by have := hBq.out.2; simp; omega)
      obtain ⟨w3, hw3⟩ : ∃ w3, w2.alloc (.cells #[.string T, .int .i64 (pl : Int)] 86) = w3 := ⟨_, rfl⟩
      obtain ⟨q3, hq3⟩ : ∃ q, w2.heap.size = q := ⟨_, rfl⟩
      have X3 : Ext w2 w3 := by rw [← hw3]; exact (Ext.refl w2).alloc _
      have HB3 : Blk w3 q3 86 [.string T, .int .i64 (pl : Int)] := by rw [← hw3]; exact blk_newAt' w2 _ _ _ hq3
      have hR3 := hidden (hR2.ext X3)
      obtain ⟨vw, vA, vC, va, vl, hV⟩ := hR2.ext X3
      have c0 := HB3.cell 0 _ rfl
      have c1 := HB3.cell 1 _ rfl
      have d7 := hV.blk.cell 7 _ rfl
      have HB5 := hidden (HB2.ext X3)
      have HB6 := hidden HB3
      have Y2 := hidden (X2.out.trans (Chg.of_ext [] X3) (by simp))
      cases hc : Src.conF s'.con tx with
      | none =>
        have hfr2 : Hid (Src.valueF e s = .error (pl, 7)) := hidden (by rw [hfr.out, hc])
        have hz : ∀ k, (Instr.lookup 48 (.map (some m)) (.string T) true).run Tryz.prog (w3.drewN k) = .ok (.tuple #[.int .i64 0, .bool false]) (w3.drewN k) := by
          intro k
          obtain ⟨l, l1, l2⟩ := hV.map.chg (Chg.of_ext [] ((Ext.refl w3).drewN k)) (by simp)
          have l3 := l2 tx
          rw [show (⟨tx.toArray⟩ : ByteArray) = T from hT, hc] at l3
          exact run_lookS_none Tryz.underlying48 Tryz.underlying9 l l1 T (.int .i64 0) (by kernel_rfl) l3
        clear hC2 hR2 hV hT HB2 HB3 hc X3
        go_wp2_with fail
        go_quiet (fail)
        have X5 : Ext w3 (w3.drewN nq) := (Ext.refl w3).drewN _
        obtain ⟨w5, hw5⟩ : ∃ W, w3.drewN nq = W := ⟨_, rfl⟩
        rw [hw5] at X5
        have e0 := X5.cell c0
        have e1 := X5.cell c1
        rw [hw5]
        clear hz d7 c0 c1 hw5
        have Y5 := hidden X5
        clear X5
        go_wp2_with fail
        refine (hf.out _).mono ?_
        rintro x w7 ⟨rfl, X7⟩
        go_wp2
        refine ⟨rfl, ?_⟩
        unfold ValP
        rw [hfr2.out]
        exact ⟨rfl, Y2.out.trans (Chg.of_ext [] (Y5.out.trans X7)) (by simp)⟩
      | some n =>
        have hfr2 : Hid (Src.valueF e s = .ok ((n, pl), s')) := hidden (by rw [hfr.out, hc])
        have hz : ∀ k, (Instr.lookup 48 (.map (some m)) (.string T) true).run Tryz.prog (w3.drewN k) = .ok (.tuple #[.int .i64 (n : Int), .bool true]) (w3.drewN k) := by
          intro k
          obtain ⟨l, l1, l2⟩ := hV.map.chg (Chg.of_ext [] ((Ext.refl w3).drewN k)) (by simp)
          have l3 := l2 tx
          rw [show (⟨tx.toArray⟩ : ByteArray) = T from hT, hc] at l3
          exact run_lookS Tryz.underlying48 Tryz.underlying9 l l1 T (.int .i64 (n : Int)) l3
        clear hC2 hR2 hV hT HB2 HB3 hc X3
        go_wp2_with fail
        go_quiet (fail)
        have X5 : Ext w3 (w3.drewN nq) := (Ext.refl w3).drewN _
        obtain ⟨w5, hw5⟩ : ∃ W, w3.drewN nq = W := ⟨_, rfl⟩
        rw [hw5] at X5
        have e0 := X5.cell c0
        have e1 := X5.cell c1
        rw [hw5]
        clear hz d7 c0 c1 hw5
        have Y5 := hidden X5
        clear X5
        go_wp2_with fail
        refine (ht.out _).mono ?_
        rintro x w7 ⟨rfl, X7⟩
        have X8 := Y5.out.trans X7
        have HB8 := HB6.out.ext X8
        have HQ8 := HB5.out.ext X8
        have c7 := HB8.cell 0 _ rfl
        have c8 := HB8.cell 1 _ rfl
        have d7 := HQ8.cell 0 _ rfl
        have d8 := HQ8.cell 1 _ rfl
        have f7 := HQ8.frozen 0
        have f8 := HQ8.frozen 1
        clear e0 e1
        go_wp2_with fail
        go_region
        go_wp2_with fail
        obtain ⟨hM, hrow⟩ := (hR3.out.ext X8).put HQ8 hBq.out.1 (.string T) (.int .i64 (pl : Int))
        have hC8 : Chg [r] w w7 := Y2.out.trans (Chg.of_ext [] X8) (by simp)
        have hC9 := ((hC8.setCell (p := ⟨q, 0, none⟩) (Or.inr (by show w.heap.size ≤ q; omega)) (.string T)).setCell (p := ⟨q, 1, none⟩) (Or.inr (by show w.heap.size ≤ q; omega)) (.int .i64 (pl : Int))).drew
        refine bodyPost_ret (v := .tuple #[.int .i64 (n : Int), .agg #[.string T, .int .i64 (pl : Int)]]) (results_tmp_row (u := 2) (p := 3) (ty := 86) (by kernel_rfl) _ _ _ rfl q 86 #[.string T, .int .i64 (pl : Int)] (0, 0) _ rfl hrow Tryz.underlying86 rfl (by kernel_rfl)) rfl ?_
        unfold ValP
        rw [hfr2.out]
        exact ⟨⟨T, rfl⟩, hM.ext (Ext.refl _).drew, hC9⟩
  | cons p rest =>
    obtain ⟨b, off, rfl, -, -⟩ := hws.cells (by simp)
    obtain ⟨k, hk⟩ : ∃ k, rest.length = k := ⟨_, rfl⟩
    rw [List.length_cons, hk] at hws p0
    obtain ⟨x0, -⟩ := rd2_at (E := cW) (fun _ => rfl) hws 0 p rfl _ _ rfl
    rw [Nat.zero_mul, Nat.add_zero, sv_ba] at x0
    have hpl : p.1.length ≤ 8192 := hb.out p (by rw [hl]; exact List.mem_cons_self)
    obtain ⟨T0, hT0⟩ : ∃ T, ba p.1 = T := ⟨_, rfl⟩
    rw [hT0] at x0
    have hnum := number_any T0 (by rw [← hT0]; show p.1.toArray.size ≤ _; simp; omega) w1 hEx
    have hTl : T0.data.toList = p.1 := by rw [← hT0]; rfl
    unfold NumP at hnum
    rw [hTl] at hnum
    have hnx := next_any B r m e s
    have hnf : Src.nextF e s = (p, { s with ws := rest }) := by unfold Src.nextF; rw [hl]
    rw [hnf] at hnx
    have hvf0 : Src.valueF e s = match Src.numF p.1 with
      | some n => .ok ((n, p.2), { s with ws := rest })
      | none => match Src.nameF e s with | .error x => .error x | .ok (w, s') => match Src.conF s'.con w.1 with | some n => .ok ((n, w.2), s') | none => .error (w.2, 7) := by
      unfold Src.valueF
      rw [hl, hnf]
      rfl
    have hp1 : ((k + 1 : Nat) : Int) = (k : Int) + 1 := by omega
    have hp0 : (0 : Int) < (k : Int) + 1 := by omega
    cases hn : Src.numF p.1 with
    | none =>
      have hvf : Hid (Src.valueF e s = match Src.nameF e s with | .error x => .error x | .ok (w, s') => match Src.conF s'.con w.1 with | some n => .ok ((n, w.2), s') | none => .error (w.2, 7)) := hidden (by rw [hvf0, hn])
      rw [hn] at hnum
      replace hnum := hidden hnum
      replace hk := hidden hk
      clear hvf0 hnx hnf hTl hT0 hpl hws h hEx hn hl
      go_enter Tryz.func57, Tryz.ntmps57
      go_wp2_with fail
      refine (hnum.out).mono ?_
      rintro x wx ⟨⟨z, rfl, -⟩, Xx⟩
      have X := hidden (X1.out.trans Xx)
      have HQ := hidden (HQ0.out.ext Xx)
      have hRx := hidden (hRx0.out.ext Xx)
      clear X1 HQ0 hRx0 Xx x0 p0
      go_upto_region 5 with fail
      have hnm := name_any B r m e s wx hRx.out hb.out
      cases hnf : Src.nameF e s with
      | error c =>
        rw [hnf] at hnm
        unfold StepP at hnm
        simp only [failW] at hnm
        have hfr : Hid (Src.valueF e s = .error c) := hidden (by rw [hvf.out, hnf])
        replace hnm := hidden hnm
        go_wp2_with fail
        refine (hnm.out).mono ?_
        rintro x w2 ⟨rfl, hC2⟩
        have hC := (Chg.of_ext [r] X.out).trans hC2 (fun x hx => Or.inl hx)
        go_wp2
        refine ⟨rfl, ?_⟩
        unfold ValP
        rw [hfr.out]
        exact ⟨rfl, hC⟩
      | ok a =>
        obtain ⟨⟨tx, pl⟩, s'⟩ := a
        rw [hnf] at hnm
        unfold StepP at hnm
        obtain ⟨T, hT⟩ : ∃ T : ByteArray, ba tx = T := ⟨_, rfl⟩
        have hv : vW (tx, pl) = .agg #[.string T, .int .i64 (pl : Int)] := by rw [← hT]; rfl
        simp only [hv] at hnm
        have hfr : Hid (Src.valueF e s = match Src.conF s'.con tx with | some n => .ok ((n, pl), s') | none => .error (pl, 7)) := hidden (by rw [hvf.out, hnf])
        have hf := demand_false T (pl : Int) 7
        simp only [failW] at hf
        have ht := demand_true T (pl : Int) 7
        replace hnm := hidden hnm
        replace hf := hidden hf
        replace ht := hidden ht
        clear hnf hv
        go_wp2_with fail
        refine (hnm.out).mono ?_
        rintro x w2 ⟨rfl, hR2, hC2⟩
        have X2 := hidden ((Chg.of_ext [r] X.out).trans hC2 (fun x hx => Or.inl hx))
        have HB2 := HQ.out.chg hC2 (by have := hBq.out.2; simp; omega)
        obtain ⟨w3, hw3⟩ : ∃ w3, w2.alloc (.cells #[.string T, .int .i64 (pl : Int)] 86) = w3 := ⟨_, rfl⟩
        obtain ⟨q3, hq3⟩ : ∃ q, w2.heap.size = q := ⟨_, rfl⟩
        have X3 : Ext w2 w3 := by rw [← hw3]; exact (Ext.refl w2).alloc _
        have HB3 : Blk w3 q3 86 [.string T, .int .i64 (pl : Int)] := by rw [← hw3]; exact blk_newAt' w2 _ _ _ hq3
        have hR3 := hidden (hR2.ext X3)
        obtain ⟨vw, vA, vC, va, vl, hV⟩ := hR2.ext X3
        have c0 := HB3.cell 0 _ rfl
        have c1 := HB3.cell 1 _ rfl
        have d7 := hV.blk.cell 7 _ rfl
        have HB5 := hidden (HB2.ext X3)
        have HB6 := hidden HB3
        have Y2 := hidden (X2.out.trans (Chg.of_ext [] X3) (by simp))
        cases hc : Src.conF s'.con tx with
        | none =>
          have hfr2 : Hid (Src.valueF e s = .error (pl, 7)) := hidden (by rw [hfr.out, hc])
          have hz : ∀ k, (Instr.lookup 48 (.map (some m)) (.string T) true).run Tryz.prog (w3.drewN k) = .ok (.tuple #[.int .i64 0, .bool false]) (w3.drewN k) := by
            intro k
            obtain ⟨l, l1, l2⟩ := hV.map.chg (Chg.of_ext [] ((Ext.refl w3).drewN k)) (by simp)
            have l3 := l2 tx
            rw [show (⟨tx.toArray⟩ : ByteArray) = T from hT, hc] at l3
            exact run_lookS_none Tryz.underlying48 Tryz.underlying9 l l1 T (.int .i64 0) (by kernel_rfl) l3
          clear hC2 hR2 hV hT HB2 HB3 hc X3
          go_wp2_with fail
          go_quiet (fail)
          have X5 : Ext w3 (w3.drewN nq) := (Ext.refl w3).drewN _
          obtain ⟨w5, hw5⟩ : ∃ W, w3.drewN nq = W := ⟨_, rfl⟩
          rw [hw5] at X5
          have e0 := X5.cell c0
          have e1 := X5.cell c1
          rw [hw5]
          clear hz d7 c0 c1 hw5
          have Y5 := hidden X5
          clear X5
          go_wp2_with fail
          refine (hf.out _).mono ?_
          rintro x w7 ⟨rfl, X7⟩
          go_wp2
          refine ⟨rfl, ?_⟩
          unfold ValP
          rw [hfr2.out]
          exact ⟨rfl, Y2.out.trans (Chg.of_ext [] (Y5.out.trans X7)) (by simp)⟩
        | some n =>
          have hfr2 : Hid (Src.valueF e s = .ok ((n, pl), s')) := hidden (by rw [hfr.out, hc])
          have hz : ∀ k, (Instr.lookup 48 (.map (some m)) (.string T) true).run Tryz.prog (w3.drewN k) = .ok (.tuple #[.int .i64 (n : Int), .bool true]) (w3.drewN k) := by
            intro k
            obtain ⟨l, l1, l2⟩ := hV.map.chg (Chg.of_ext [] ((Ext.refl w3).drewN k)) (by simp)
            have l3 := l2 tx
            rw [show (⟨tx.toArray⟩ : ByteArray) = T from hT, hc] at l3
            exact run_lookS Tryz.underlying48 Tryz.underlying9 l l1 T (.int .i64 (n : Int)) l3
          clear hC2 hR2 hV hT HB2 HB3 hc X3
          go_wp2_with fail
          go_quiet (fail)
          have X5 : Ext w3 (w3.drewN nq) := (Ext.refl w3).drewN _
          obtain ⟨w5, hw5⟩ : ∃ W, w3.drewN nq = W := ⟨_, rfl⟩
          rw [hw5] at X5
          have e0 := X5.cell c0
          have e1 := X5.cell c1
          rw [hw5]
          clear hz d7 c0 c1 hw5
          have Y5 := hidden X5
          clear X5
          go_wp2_with fail
          refine (ht.out _).mono ?_
          rintro x w7 ⟨rfl, X7⟩
          have X8 := Y5.out.trans X7
          have HB8 := HB6.out.ext X8
          have HQ8 := HB5.out.ext X8
          have c7 := HB8.cell 0 _ rfl
          have c8 := HB8.cell 1 _ rfl
          have d7 := HQ8.cell 0 _ rfl
          have d8 := HQ8.cell 1 _ rfl
          have f7 := HQ8.frozen 0
          have f8 := HQ8.frozen 1
          clear e0 e1
          go_wp2_with fail
          go_region
          go_wp2_with fail
          obtain ⟨hM, hrow⟩ := (hR3.out.ext X8).put HQ8 hBq.out.1 (.string T) (.int .i64 (pl : Int))
          have hC8 : Chg [r] w w7 := Y2.out.trans (Chg.of_ext [] X8) (by simp)
          have hC9 := ((hC8.setCell (p := ⟨q, 0, none⟩) (Or.inr (by show w.heap.size ≤ q; omega)) (.string T)).setCell (p := ⟨q, 1, none⟩) (Or.inr (by show w.heap.size ≤ q; omega)) (.int .i64 (pl : Int))).drew
          refine bodyPost_ret (v := .tuple #[.int .i64 (n : Int), .agg #[.string T, .int .i64 (pl : Int)]]) (results_tmp_row (u := 2) (p := 3) (ty := 86) (by kernel_rfl) _ _ _ rfl q 86 #[.string T, .int .i64 (pl : Int)] (0, 0) _ rfl hrow Tryz.underlying86 rfl (by kernel_rfl)) rfl ?_
          unfold ValP
          rw [hfr2.out]
          exact ⟨⟨T, rfl⟩, hM.ext (Ext.refl _).drew, hC9⟩
    | some n =>
      have hvf2 : Hid (Src.valueF e s = .ok ((n, p.2), { s with ws := rest })) := hidden (by rw [hvf0, hn])
      rw [hn] at hnum
      obtain ⟨tx, pl⟩ := p
      have hv : vW (tx, pl) = .agg #[.string T0, .int .i64 (pl : Int)] := by rw [← hT0]; rfl
      rw [hv] at hnx
      replace hnum := hidden hnum
      replace hnx := hidden hnx
      replace hk := hidden hk
      clear hvf0 hnf hTl hT0 hpl hws h hEx hn hl hv
      go_enter Tryz.func57, Tryz.ntmps57
      go_wp2_with fail
      refine (hnum.out).mono ?_
      rintro x wx ⟨⟨z, rfl, hz⟩, Xx⟩
      have hzn := hz n rfl
      subst hzn
      have X := hidden (X1.out.trans Xx)
      have HQ := hidden (HQ0.out.ext Xx)
      have hRx := hidden (hRx0.out.ext Xx)
      clear X1 HQ0 hRx0 Xx x0 p0 hz
      go_wp2_with fail
      refine (hnx.out wx hRx.out).mono ?_
      rintro x w2 ⟨rfl, hR2, hC2⟩
      have HQ8 := HQ.out.chg hC2 (by have := hBq.out.2; simp; omega)
      have hC8 := (Chg.of_ext [r] X.out).trans hC2 (fun x hx => Or.inl hx)
      have d7 := HQ8.cell 0 _ rfl
      have d8 := HQ8.cell 1 _ rfl
      have f7 := HQ8.frozen 0
      have f8 := HQ8.frozen 1
      go_wp2_with fail
      obtain ⟨hM, hrow⟩ := hR2.put HQ8 hBq.out.1 (.string T0) (.int .i64 (pl : Int))
      have hC9 := ((hC8.setCell (p := ⟨q, 0, none⟩) (Or.inr (by show w.heap.size ≤ q; omega)) (.string T0)).setCell (p := ⟨q, 1, none⟩) (Or.inr (by show w.heap.size ≤ q; omega)) (.int .i64 (pl : Int)))
      refine bodyPost_ret (v := .tuple #[.int .i64 (n : Int), .agg #[.string T0, .int .i64 (pl : Int)]]) (results_tmp_row (u := 2) (p := 3) (ty := 86) (by kernel_rfl) _ _ _ rfl q 86 #[.string T0, .int .i64 (pl : Int)] (0, 0) _ rfl hrow Tryz.underlying86 rfl (by kernel_rfl)) rfl ?_
      unfold ValP
      rw [hvf2.out]
      exact ⟨⟨T0, rfl⟩, hM, hC9⟩
end Go.Proofs.YthjnchjfmbblfaaGreatDoor

/- The reader's rows grow. -/
namespace Go.Proofs.YthjnchjfmbblfaaGreatDoor
open Go.RowKit Go.ChangeMaps Go.MapKept
set_option linter.unusedVariables false
set_option linter.unusedSimpArgs false

/-- What a declaration or an instruction leaves as it was. -/
structure KB (B r m : Nat) (w w' : World) : Prop where
  os : w'.os = w.os
  tape : w'.tape = w.tape
  output : w'.output = w.output
  size : w.heap.size ≤ w'.heap.size
  block : ∀ k, k < B → k ≠ r → k ≠ m → w'.heap[k]? = w.heap[k]?
theorem KB.refl (B r m : Nat) (w : World) : KB B r m w w := ⟨rfl, rfl, rfl, Nat.le_refl _, fun _ _ _ _ => rfl⟩
theorem KB.trans {B r m : Nat} {a b c : World} (h : KB B r m a b) (k : KB B r m b c) : KB B r m a c :=
  ⟨k.os.trans h.os, k.tape.trans h.tape, k.output.trans h.output, Nat.le_trans h.size k.size, fun i h1 h2 h3 => (k.block i h1 h2 h3).trans (h.block i h1 h2 h3)⟩
theorem KB.of_chg {B r m : Nat} {w w' : World} {S : List Nat} (h : Chg S w w') (hB : B ≤ w.heap.size) (hS : ∀ x ∈ S, x = r ∨ x = m ∨ B ≤ x) : KB B r m w w' :=
  ⟨h.os, h.tape, h.output, h.size, fun k h1 h2 h3 => h.block k (by omega) (fun hm => by rcases hS k hm with h4 | h4 | h4 <;> omega)⟩
theorem KB.of_ext {B r m : Nat} {w w' : World} (h : Ext w w') (hB : B ≤ w.heap.size) : KB B r m w w' := KB.of_chg (Chg.of_ext [] h) hB (by simp)
theorem KB.setR {B r m : Nat} {a w : World} (h : KB B r m a w) (i : Nat) (v : Value) : KB B r m a (w.setCell ⟨r, i, none⟩ v) :=
  h.trans ⟨rfl, rfl, rfl, by simp [World.setCell], fun k _ h2 _ => Below.heap_setCell _ _ _ _ h2⟩
theorem KB.drew {B r m : Nat} {a w : World} (h : KB B r m a w) : KB B r m a w.drew := ⟨h.os, h.tape, h.output, h.size, h.block⟩
theorem KB.cell {B r m : Nat} {w w' : World} (h : KB B r m w w') {k o : Nat} {v : Value} (h1 : k < B) (h2 : k ≠ r) (h3 : k ≠ m) (hc : w.cell? ⟨k, o, none⟩ = some v) : w'.cell? ⟨k, o, none⟩ = some v := by
  rw [World.cell?_of_block (w := w) (w' := w') (a := ⟨k, o, none⟩) (h.block k h1 h2 h3)]; exact hc
theorem KB.heap {B r m : Nat} {w w' : World} (h : KB B r m w w') {k : Nat} {o : Obj} (h1 : k < B) (h2 : k ≠ r) (h3 : k ≠ m) (hc : w.heap[k]? = some o) : w'.heap[k]? = some o := by rw [h.block k h1 h2 h3]; exact hc
/-- What a declaration or an instruction leaves. -/
def RowP (B r m e : Nat) (R : Src.RE Src.RS) (w : World) (x : Ending) (w' : World) : Prop := match R with
  | .ok s' => x = .returned (.tuple #[]) ∧ RMem w' B r m e s' ∧ KB B r m w w'
  | .error c => x = failW (c.1 : Int) c.2 ∧ KB B r m w w'
section
variable {w W3 : World} {B r m e : Nat} {s : Src.RS} {vw vA vC va vl v3 : Value} {o : Obj} {n : Nat} {xs : List Value}
theorem RV.in_B (h : RV w B r m e s vw vA vC va vl) {t : TypeId} {sz k : Nat} {v : Value} {cs : List Value} (ho : w.ownsRow B t sz v k cs) {x : Nat} (hx : v.ownBlock = some x) : x ≠ r ∧ x ≠ m ∧ vw.ownBlock ≠ some x ∧ B ≤ x ∧ x < w.heap.size := by
  have h1 := own_lt ho hx
  have h2 := h.rB
  have h3 := h.mB
  exact ⟨by omega, by omega, fun hv => by have := (h.wlo x hv).1; omega, h1.1, h1.2⟩
/-- A row has grown, and its cell in the reader holds it: what lies apart from it is as it was. -/
theorem grow_chg {v : Value} (hg : (w.alloc o).grownBy W3 v.ownBlock) : Chg v.ownBlock.toList w W3 :=
  (((Chg.refl v.ownBlock.toList w).alloc o).trans ((Chg.refl _ (w.alloc o)).grown hg (fun k hk => Or.inl (by simp [hk]))) (fun x hx => Or.inl hx))
theorem grow_blk {v : Value} (hb : v3.ownBlock = v.ownBlock ∨ v3.ownBlock = some (w.alloc o).heap.size) {x : Nat} (hx : v3.ownBlock = some x) : v.ownBlock = some x ∨ w.heap.size ≤ x := by
  rcases hb with hb | hb
  · exact Or.inl (hb ▸ hx)
  · rw [hb] at hx
    injection hx with hx
    right
    rw [← hx]
    simp
theorem RV.growa (h : RV w B r m e s vw vA vC va vl) (hown : W3.ownsRow B 9 1 v3 n xs) (hg : (w.alloc o).grownBy W3 va.ownBlock) (hb : v3.ownBlock = va.ownBlock ∨ v3.ownBlock = some (w.alloc o).heap.size)
    (tx : List UInt8) (hn : n = s.arr.length + 1) (hx : xs = s.arr.map sv ++ [sv tx]) :
    Blk W3 r 50 [vw, .int .i64 (e : Int), vA, .int .i64 (s.loc.length : Int), vC, va, vl, .map (some m)] ∧ RV (W3.setCell ⟨r, 5, none⟩ v3) B r m e { s with arr := s.arr ++ [tx] } vw vA vC v3 vl ∧ KB B r m w W3 := by
  have hC := grow_chg hg
  have hin : ∀ x, va.ownBlock = some x → x ≠ r ∧ x ≠ m ∧ vw.ownBlock ≠ some x ∧ B ≤ x ∧ x < w.heap.size := fun x hx => h.in_B h.oa hx
  have hmem : ∀ x, x ∈ va.ownBlock.toList → va.ownBlock = some x := fun x hx => by simpa using hx
  have hR := (Chg.refl [r] W3).setCell (p := ⟨r, 5, none⟩) (Or.inl (by simp)) v3
  have hr : Blk W3 r 50 [vw, .int .i64 (e : Int), vA, .int .i64 (s.loc.length : Int), vC, va, vl, .map (some m)] := h.blk.chg hC (fun hm => (hin _ (hmem _ hm)).1 rfl)
  refine ⟨hr, ?_, KB.of_chg hC h.BS (fun x hx => Or.inr (Or.inr (hin x (hmem x hx)).2.2.2.1))⟩
  subst hn hx
  have oA := own_chg h.oA hC (fun x hx => own_ne_own h.oa h.oA (by decide) (hmem x hx))
  have oC := own_chg h.oC hC (fun x hx => own_ne_own h.oa h.oC (by decide) (hmem x hx))
  have ol := own_chg h.ol hC (fun x hx => h.dis x (hmem x hx))
  have oa : W3.ownsRow B 9 1 v3 (s.arr ++ [tx]).length ((s.arr ++ [tx]).map sv) := by
    rw [List.length_append, List.map_append]
    exact hown
  exact {
    blk := hr.set 5 v3
    ws := Rd.chg (Rd.chg h.ws hC (fun x hx _ => (hin x (hmem x hx)).2.2.1)) hR (fun x hx _ hv => by simp at hx; exact (h.wlo x hv).2 hx)
    wlo := h.wlo
    oA := own_chg oA hR (fun x hx => by simp at hx; subst hx; exact own_base oA h.rB)
    oC := own_chg oC hR (fun x hx => by simp at hx; subst hx; exact own_base oC h.rB)
    oa := own_chg oa hR (fun x hx => by simp at hx; subst hx; exact own_base oa h.rB)
    ol := own_chg ol hR (fun x hx => by simp at hx; subst hx; exact own_base ol h.rB)
    dis := fun x hx => by
      rcases grow_blk hb hx with h1 | h1
      · exact h.dis x h1
      · exact fun hv => by have := (own_lt h.ol hv).2; omega
    map := (h.map.chg hC (fun hm => (hin _ (hmem _ hm)).2.1 rfl)).chg hR (by simp; exact h.mr)
    rB := h.rB
    mB := h.mB
    BS := by have := hC.size; have := hR.size; have := h.BS; omega }
theorem RV.growl (h : RV w B r m e s vw vA vC va vl) (hown : W3.ownsRow B 9 1 v3 n xs) (hg : (w.alloc o).grownBy W3 vl.ownBlock) (hb : v3.ownBlock = vl.ownBlock ∨ v3.ownBlock = some (w.alloc o).heap.size)
    (tx : List UInt8) (hn : n = s.loc.length + 1) (hx : xs = s.loc.map sv ++ [sv tx]) :
    Blk W3 r 50 [vw, .int .i64 (e : Int), vA, .int .i64 (s.loc.length : Int), vC, va, vl, .map (some m)] ∧ RV ((W3.setCell ⟨r, 6, none⟩ v3).setCell ⟨r, 3, none⟩ (.int .i64 ((s.loc.length : Int) + 1))) B r m e { s with loc := s.loc ++ [tx] } vw vA vC va v3 ∧ KB B r m w W3 := by
  have hC := grow_chg hg
  have hin : ∀ x, vl.ownBlock = some x → x ≠ r ∧ x ≠ m ∧ vw.ownBlock ≠ some x ∧ B ≤ x ∧ x < w.heap.size := fun x hx => h.in_B h.ol hx
  have hmem : ∀ x, x ∈ vl.ownBlock.toList → vl.ownBlock = some x := fun x hx => by simpa using hx
  have hR := ((Chg.refl [r] W3).setCell (p := ⟨r, 6, none⟩) (Or.inl (by simp)) v3).setCell (p := ⟨r, 3, none⟩) (Or.inl (by simp)) (.int .i64 ((s.loc.length : Int) + 1))
  have hr : Blk W3 r 50 [vw, .int .i64 (e : Int), vA, .int .i64 (s.loc.length : Int), vC, va, vl, .map (some m)] := h.blk.chg hC (fun hm => (hin _ (hmem _ hm)).1 rfl)
  refine ⟨hr, ?_, KB.of_chg hC h.BS (fun x hx => Or.inr (Or.inr (hin x (hmem x hx)).2.2.2.1))⟩
  subst hn hx
  have oA := own_chg h.oA hC (fun x hx => own_ne_own h.ol h.oA (by decide) (hmem x hx))
  have oC := own_chg h.oC hC (fun x hx => own_ne_own h.ol h.oC (by decide) (hmem x hx))
  have oa := own_chg h.oa hC (fun x hx hv => h.dis x hv (hmem x hx))
  have ol : W3.ownsRow B 9 1 v3 (s.loc ++ [tx]).length ((s.loc ++ [tx]).map sv) := by
    rw [List.length_append, List.map_append]
    exact hown
  exact {
    blk := by
      have := (hr.set 6 v3).set 3 (.int .i64 ((s.loc.length : Int) + 1))
      have e1 : (((s.loc ++ [tx]).length : Nat) : Int) = (s.loc.length : Int) + 1 := by simp
      show Blk _ r _ [vw, _, vA, .int .i64 (((s.loc ++ [tx]).length : Nat) : Int), vC, va, v3, _]
      rw [e1]
      exact this
    ws := Rd.chg (Rd.chg h.ws hC (fun x hx _ => (hin x (hmem x hx)).2.2.1)) hR (fun x hx _ hv => by simp at hx; exact (h.wlo x hv).2 hx)
    wlo := h.wlo
    oA := own_chg oA hR (fun x hx => by simp at hx; subst hx; exact own_base oA h.rB)
    oC := own_chg oC hR (fun x hx => by simp at hx; subst hx; exact own_base oC h.rB)
    oa := own_chg oa hR (fun x hx => by simp at hx; subst hx; exact own_base oa h.rB)
    ol := own_chg ol hR (fun x hx => by simp at hx; subst hx; exact own_base ol h.rB)
    dis := fun x hx hv => by
      rcases grow_blk hb hv with h1 | h1
      · exact h.dis x hx h1
      · have := (own_lt h.oa hx).2; omega
    map := (h.map.chg hC (fun hm => (hin _ (hmem _ hm)).2.1 rfl)).chg hR (by simp; exact h.mr)
    rB := h.rB
    mB := h.mB
    BS := by have := hC.size; have := hR.size; have := h.BS; omega }
theorem RV.growA (h : RV w B r m e s vw vA vC va vl) (hown : W3.ownsRow B 63 2 v3 n xs) (hg : (w.alloc o).grownBy W3 vA.ownBlock)
    (x : Bool × Int) (hn : n = s.A.length + 1) (hx : xs = s.A.flatMap cA ++ cA x) :
    Blk W3 r 50 [vw, .int .i64 (e : Int), vA, .int .i64 (s.loc.length : Int), vC, va, vl, .map (some m)] ∧ RV (W3.setCell ⟨r, 2, none⟩ v3) B r m e { s with A := s.A ++ [x] } vw v3 vC va vl ∧ KB B r m w W3 := by
  have hC := grow_chg hg
  have hin : ∀ x, vA.ownBlock = some x → x ≠ r ∧ x ≠ m ∧ vw.ownBlock ≠ some x ∧ B ≤ x ∧ x < w.heap.size := fun x hx => h.in_B h.oA hx
  have hmem : ∀ x, x ∈ vA.ownBlock.toList → vA.ownBlock = some x := fun x hx => by simpa using hx
  have hR := (Chg.refl [r] W3).setCell (p := ⟨r, 2, none⟩) (Or.inl (by simp)) v3
  have hr : Blk W3 r 50 [vw, .int .i64 (e : Int), vA, .int .i64 (s.loc.length : Int), vC, va, vl, .map (some m)] := h.blk.chg hC (fun hm => (hin _ (hmem _ hm)).1 rfl)
  refine ⟨hr, ?_, KB.of_chg hC h.BS (fun x hx => Or.inr (Or.inr (hin x (hmem x hx)).2.2.2.1))⟩
  subst hn hx
  have oC := own_chg h.oC hC (fun x hx => own_ne_own h.oA h.oC (by decide) (hmem x hx))
  have oa := own_chg h.oa hC (fun x hx => own_ne_own h.oA h.oa (by decide) (hmem x hx))
  have ol := own_chg h.ol hC (fun x hx => own_ne_own h.oA h.ol (by decide) (hmem x hx))
  have oA : W3.ownsRow B 63 2 v3 (s.A ++ [x]).length ((s.A ++ [x]).flatMap cA) := by
    rw [List.length_append, List.flatMap_append, List.flatMap_singleton]
    exact hown
  exact {
    blk := hr.set 2 v3
    ws := Rd.chg (Rd.chg h.ws hC (fun x hx _ => (hin x (hmem x hx)).2.2.1)) hR (fun x hx _ hv => by simp at hx; exact (h.wlo x hv).2 hx)
    wlo := h.wlo
    oA := own_chg oA hR (fun x hx => by simp at hx; subst hx; exact own_base oA h.rB)
    oC := own_chg oC hR (fun x hx => by simp at hx; subst hx; exact own_base oC h.rB)
    oa := own_chg oa hR (fun x hx => by simp at hx; subst hx; exact own_base oa h.rB)
    ol := own_chg ol hR (fun x hx => by simp at hx; subst hx; exact own_base ol h.rB)
    dis := h.dis
    map := (h.map.chg hC (fun hm => (hin _ (hmem _ hm)).2.1 rfl)).chg hR (by simp; exact h.mr)
    rB := h.rB
    mB := h.mB
    BS := by have := hC.size; have := hR.size; have := h.BS; omega }
theorem RV.growC (h : RV w B r m e s vw vA vC va vl) (hown : W3.ownsRow B 56 2 v3 n xs) (hg : (w.alloc o).grownBy W3 vC.ownBlock)
    (x : Int × Int) (hn : n = s.C.length + 1) (hx : xs = s.C.flatMap cI ++ cI x) :
    Blk W3 r 50 [vw, .int .i64 (e : Int), vA, .int .i64 (s.loc.length : Int), vC, va, vl, .map (some m)] ∧ RV (W3.setCell ⟨r, 4, none⟩ v3) B r m e { s with C := s.C ++ [x] } vw vA v3 va vl ∧ KB B r m w W3 := by
  have hC := grow_chg hg
  have hin : ∀ x, vC.ownBlock = some x → x ≠ r ∧ x ≠ m ∧ vw.ownBlock ≠ some x ∧ B ≤ x ∧ x < w.heap.size := fun x hx => h.in_B h.oC hx
  have hmem : ∀ x, x ∈ vC.ownBlock.toList → vC.ownBlock = some x := fun x hx => by simpa using hx
  have hR := (Chg.refl [r] W3).setCell (p := ⟨r, 4, none⟩) (Or.inl (by simp)) v3
  have hr : Blk W3 r 50 [vw, .int .i64 (e : Int), vA, .int .i64 (s.loc.length : Int), vC, va, vl, .map (some m)] := h.blk.chg hC (fun hm => (hin _ (hmem _ hm)).1 rfl)
  refine ⟨hr, ?_, KB.of_chg hC h.BS (fun x hx => Or.inr (Or.inr (hin x (hmem x hx)).2.2.2.1))⟩
  subst hn hx
  have oA := own_chg h.oA hC (fun x hx => own_ne_own h.oC h.oA (by decide) (hmem x hx))
  have oa := own_chg h.oa hC (fun x hx => own_ne_own h.oC h.oa (by decide) (hmem x hx))
  have ol := own_chg h.ol hC (fun x hx => own_ne_own h.oC h.ol (by decide) (hmem x hx))
  have oC : W3.ownsRow B 56 2 v3 (s.C ++ [x]).length ((s.C ++ [x]).flatMap cI) := by
    rw [List.length_append, List.flatMap_append, List.flatMap_singleton]
    exact hown
  exact {
    blk := hr.set 4 v3
    ws := Rd.chg (Rd.chg h.ws hC (fun x hx _ => (hin x (hmem x hx)).2.2.1)) hR (fun x hx _ hv => by simp at hx; exact (h.wlo x hv).2 hx)
    wlo := h.wlo
    oA := own_chg oA hR (fun x hx => by simp at hx; subst hx; exact own_base oA h.rB)
    oC := own_chg oC hR (fun x hx => by simp at hx; subst hx; exact own_base oC h.rB)
    oa := own_chg oa hR (fun x hx => by simp at hx; subst hx; exact own_base oa h.rB)
    ol := own_chg ol hR (fun x hx => by simp at hx; subst hx; exact own_base ol h.rB)
    dis := h.dis
    map := (h.map.chg hC (fun hm => (hin _ (hmem _ hm)).2.1 rfl)).chg hR (by simp; exact h.mr)
    rB := h.rB
    mB := h.mB
    BS := by have := hC.size; have := hR.size; have := h.BS; omega }
/-- A constant more. -/
theorem RV.addc (h : RV w B r m e s vw vA vC va vl) {l : List (ByteArray × Value)} (hl : w.heap[m]? = some (tblS l)) (hk : ∀ k : List UInt8, lookS ⟨k.toArray⟩ l = (Src.conF s.con k).map fun n : Nat => Value.int .i64 (n : Int)) (tx : List UInt8) (n : Nat) (hnew : Src.conF s.con tx = none) :
    RV (setBlock w m (tblS (l ++ [(ba tx, .int .i64 (n : Int))]))) B r m e { s with con := (tx, n) :: s.con } vw vA vC va vl := by
  have hC := chg_setBlock w m (tblS (l ++ [(ba tx, .int .i64 (n : Int))]))
  have hml : m < w.heap.size := (Array.getElem?_eq_some_iff.1 hl).1
  have hmr := h.mr
  have hmB := h.mB
  have off : ∀ {t : TypeId} {sz k : Nat} {v : Value} {cs : List Value}, w.ownsRow B t sz v k cs → ∀ x ∈ [m], v.ownBlock ≠ some x := fun ho x hx => by simp at hx; subst hx; exact own_base ho hmB
  exact {
    blk := h.blk.chg hC (by simp; exact fun e => hmr e.symm)
    ws := Rd.chg h.ws hC (fun x hx hn hv => by
      simp at hx
      subst hx
      have hws := h.ws
      obtain ⟨a, cap, rfl, -⟩ := Rd.shape hws
      obtain ⟨b, off, rfl, -, hc⟩ := hws.cells hn
      simp [Value.ownBlock] at hv
      subst hv
      have hn' : 0 < s.ws.length := hn
      have h2 := hc 0 (by rw [hws.len]; omega)
      simp only [World.cell?, hl, tblS] at h2
      cases h2)
    wlo := h.wlo
    oA := own_chg h.oA hC (off h.oA)
    oC := own_chg h.oC hC (off h.oC)
    oa := own_chg h.oa hC (off h.oa)
    ol := own_chg h.ol hC (off h.ol)
    dis := h.dis
    map := ⟨_, setBlock_at hml _, fun k => by
      rw [lookS_snoc, hk k]
      show _ = (((List.find? (·.1 == k) ((tx, n) :: s.con)).map (·.2))).map (fun n : Nat => Value.int .i64 (n : Int))
      rw [List.find?_cons]
      by_cases hkt : tx = k
      · subst hkt
        have h1 : (tx == tx) = true := by simp
        rw [h1, hnew]
        simp [ba]
      · have h1 : (tx == k) = false := by simpa using hkt
        have h2 : ¬ (⟨k.toArray⟩ : ByteArray) = ba tx := fun e => hkt (ba_inj e).symm
        rw [h1]
        have h3 : (List.find? (·.1 == k) s.con).map (·.2) = Src.conF s.con k := rfl
        rw [h3]
        cases hc : Src.conF s.con k with
        | none => simp [h2]
        | some j => simp⟩
    rB := h.rB
    mB := h.mB
    BS := by have := hC.size; have := h.BS; omega }
end
end Go.Proofs.YthjnchjfmbblfaaGreatDoor

/- The deferred closure of read. -/
namespace Go.Proofs.YthjnchjfmbblfaaGreatDoor
open Go.RowKit
set_option linter.unusedVariables false
set_option linter.unusedSimpArgs false
attribute [local go_sem ↓] Go.wp_at_zero Go.wp_at_succ

theorem wp_hide {P : Program} {c : Code} {a : Act} {w : World} {Q : Exit → Act → World → Prop} (h : ∀ K : Exit → Act → World → Prop, (∀ e a w, Q e a w → K e a w) → c.wp P K a w) : c.wp P Q a w := h Q (fun _ _ _ h => h)
@[local go_sem] theorem asFa (v : Value) (w : World) : (Instr.typeAssert (.iface 80 v) 20 80 true).run Tryz.prog w = .ok (.tuple #[v, .bool true]) w := by kernel_rfl
theorem rrescue_idle (p q o : Addr) (w : World) :
    CallsD Tryz.prog 28 #[.pointer (some p), .pointer (some q), .pointer (some o)] .returning w fun e u' w' => e = .returned (.tuple #[]) ∧ u' = .returning ∧ w' = w := by
  refine callsD_of_wpS Tryz.func28 rfl fun c₀ cs hu => ?_
  apply wpS_seq
  apply wpS_region
  simp [wpOpsS, go_sem, recoverD, hu, Tryz.ntmps28, Exit.thenS]
  apply wpS_seq
  apply wpS_region
  simp [wpOpsS, go_sem]
  simp only [Exit.thenS]
  refine wpS_cond (t := false) (by simp [Act.eval, Array.replicate]) ?_
  simp only [Bool.false_eq_true, if_false]
  refine wpS_of_wp (wp_skip ?_)
  cases c₀
  simp_all [bodyPostS, results, Tryz.f28, go_sem]
set_option maxRecDepth 100000 in
theorem rrescue_panic (p q o : Nat) (a b : Int) (v0 : Option Addr) (x0 y0 : Int) (w : World) (hp : Blk w p 44 [.pointer v0]) (hq : Blk w q 3 [.int .i64 x0]) (ho : Blk w o 26 [.int .i64 y0]) (h1 : p ≠ q) (h2 : p ≠ o) (h3 : q ≠ o) :
    CallsD Tryz.prog 28 #[.pointer (some ⟨p, 0, none⟩), .pointer (some ⟨q, 0, none⟩), .pointer (some ⟨o, 0, none⟩)] (.panicking [{ v := .iface 80 (.agg #[.int .i64 a, .int .i64 b]), recovered := false }]) w fun x u' w' =>
      x = .returned (.tuple #[]) ∧ u' = .panicking [{ v := .iface 80 (.agg #[.int .i64 a, .int .i64 b]), recovered := true }] ∧ Blk w' p 44 [.pointer none] ∧ Blk w' q 3 [.int .i64 a] ∧ Blk w' o 26 [.int .i64 b] ∧ Chg [p, q, o] w w' := by
  refine callsD_of_wpS Tryz.func28 rfl fun c₀ cs hu => ?_
  apply wpS_seq
  apply wpS_region
  simp [wpOpsS, go_sem, recoverD, hu, Tryz.ntmps28, Exit.thenS]
  apply wpS_seq
  apply wpS_region
  simp [wpOpsS, go_sem]
  simp only [Exit.thenS]
  refine wpS_cond (t := true) (by simp [Act.eval, Array.replicate]) ?_
  simp only [if_true]
  apply wpS_seq
  apply wpS_region
  simp [wpOpsS, go_sem, Array.replicate]
  simp only [Exit.thenS]
  apply wpS_seq
  apply wpS_seq
  apply wpS_region
  simp [wpOpsS, go_sem]
  simp only [Exit.thenS]
  refine wpS_cond (t := false) (by simp [Act.eval]) ?_
  simp only [Bool.false_eq_true, if_false]
  refine wpS_of_wp (wp_skip ?_)
  simp only [Exit.thenS]
  refine wpS_of_wp (wp_hide fun KK hKK => ?_)
  have g1 : Ext w (w.alloc (Obj.cells #[Value.int IntKind.i64 a, Value.int IntKind.i64 b] 80)) := (Ext.refl w).alloc _
  have n0 : Blk (w.alloc (Obj.cells #[Value.int IntKind.i64 a, Value.int IntKind.i64 b] 80)) w.heap.size 80 [.int .i64 a, .int .i64 b] := Blk.new w [.int .i64 a, .int .i64 b] _
  have hp1 := hp.ext g1
  have hq1 := hq.ext g1
  have ho1 := ho.ext g1
  have hpb := hp.lt
  have hqb := hq.lt
  have hob := ho.lt
  have p0 := hp1.cell 0 _ rfl
  have q0 := hq1.cell 0 _ rfl
  have o0 := ho1.cell 0 _ rfl
  have f0 := hp1.frozen 0
  have k0 := hq1.frozen 0
  have j0 := ho1.frozen 0
  have m0 := n0.cell 0 _ rfl
  have m1 := n0.cell 1 _ rfl
  obtain ⟨z, hz⟩ : ∃ s, w.heap.size = s := ⟨_, rfl⟩
  rw [hz] at n0 m0 m1 hpb hqb hob ⊢
  generalize w.alloc (Obj.cells #[Value.int IntKind.i64 a, Value.int IntKind.i64 b] 80) = w1 at *
  have hpz : ¬ p = z := by omega
  have hqz : ¬ q = z := by omega
  have hoz : ¬ o = z := by omega
  have hzp : ¬ z = p := by omega
  have hzq : ¬ z = q := by omega
  have hzo : ¬ z = o := by omega
  have hqp : ¬ q = p := fun h => h1 h.symm
  have hop : ¬ o = p := fun h => h2 h.symm
  have hoq : ¬ o = q := fun h => h3 h.symm
  replace hp1 := hidden hp1
  replace hq1 := hidden hq1
  replace ho1 := hidden ho1
  clear hp hq ho n0
  go_region
  have e1 := (((hp1.out.set 0 (.pointer none)).set_other h1 (i := 0) (.int .i64 a)).set_other h2 (i := 0) (.int .i64 b)).drew
  have e2 := (((hq1.out.set_other hqp (i := 0) (.pointer none)).set 0 (.int .i64 a)).set_other h3 (i := 0) (.int .i64 b)).drew
  have e3 := (((ho1.out.set_other hop (i := 0) (.pointer none)).set_other hoq (i := 0) (.int .i64 a)).set 0 (.int .i64 b)).drew
  have e4 : Chg [p, q, o] w (((w1.setCell ⟨p, 0, none⟩ (.pointer none)).setCell ⟨q, 0, none⟩ (.int .i64 a)).setCell ⟨o, 0, none⟩ (.int .i64 b)).drew := ((((Chg.of_ext _ g1).setCell (p := ⟨p, 0, none⟩) (Or.inl (by simp)) _).setCell (p := ⟨q, 0, none⟩) (Or.inl (by simp)) _).setCell (p := ⟨o, 0, none⟩) (Or.inl (by simp)) _).drew
  refine hKK _ _ _ ⟨rfl, _, rfl, .tuple #[], by simp [results, Tryz.f28, go_sem], rfl, rfl, e1, e2, e3, e4⟩
end Go.Proofs.YthjnchjfmbblfaaGreatDoor
