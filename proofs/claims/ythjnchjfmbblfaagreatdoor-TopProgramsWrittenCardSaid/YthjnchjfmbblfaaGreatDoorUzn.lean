/- read. -/
import Derived.Test.YthjnchjfmbblfaaGreatDoorUzm
namespace Go.Proofs.YthjnchjfmbblfaaGreatDoor
open Go.RowKit Go.ChangeMaps Go.MapKept
set_option linter.unusedVariables false
set_option linter.unusedSimpArgs false
attribute [local go_sem ↓] Go.wp_at_zero Go.wp_at_succ

theorem EG.kb {B r m : Nat} {w w' : World} (h : EG B r m w) (k : KB B r m w w') : EG B r m w' := by
  obtain ⟨ev, h1, h2⟩ := h.err
  exact ⟨⟨ev, k.cell h.lo h.ne.1 h.ne.2 h1, h2⟩, h.ne, h.lo⟩
theorem Blk.kb {B r m : Nat} {w w' : World} (k : KB B r m w w') {b : Nat} {t : TypeId} {cs : List Value} (h : Blk w b t cs) (h1 : b < B) (h2 : b ≠ r) (h3 : b ≠ m) : Blk w' b t cs := k.heap h1 h2 h3 h
theorem KB.out0 {B r m : Nat} {w w4 w7 : World} (h : Chg [] w w4) (k : KB B r m w4 w7) (hr : w.heap.size ≤ r) (hm : w.heap.size ≤ m) (hB : w.heap.size ≤ B) : Chg [] w w7 :=
  ⟨k.os.trans h.os, k.tape.trans h.tape, k.output.trans h.output, Nat.le_trans h.size k.size, fun i hi hs => (k.block i (by omega) (by omega) (by omega)).trans (h.block i hi hs)⟩
set_option maxHeartbeats 32000000 in
set_option maxRecDepth 100000 in
theorem read_any (src : ByteArray) (hs0 : src.size ≤ 1000000) (w : World) (hErr : ErrR w) :
    Calls Tryz.prog 13 #[.string src] w (ReadR src.size (Src.readF src.data.toList) w) := by
  obtain ⟨n, hn⟩ : ∃ n, src.size = n := ⟨_, rfl⟩
  have hlen : src.data.toList.length = n := by simpa using hn
  obtain ⟨L, hL⟩ : ∃ L, src.data.toList = L := ⟨_, rfl⟩
  have hsplit := split_any src
  rw [hL] at hlen hsplit ⊢
  have hls : ∀ w, (Builtin.len_ #[9] 3 #[.string src]).run Tryz.prog w = .ok (.int .i64 (n : Int)) w := by intro w; rw [run_len_string _ _ _ _ (by kernel_rfl), hn]; rfl
  rw [hn] at hs0 hsplit ⊢
  replace hn := hidden hn
  replace hL := hidden hL
  replace hlen := hidden hlen
  obtain ⟨p, hp⟩ : ∃ s, w.heap.size = s := ⟨_, rfl⟩
  have X2 : Ext w (((w.alloc (.cells #[.pointer none] 44)).alloc (.cells #[.int .i64 0] 3)).alloc (.cells #[.int .i64 0] 26)) := (((Ext.refl w).alloc _).alloc _).alloc _
  have P0 : Blk (((w.alloc (.cells #[.pointer none] 44)).alloc (.cells #[.int .i64 0] 3)).alloc (.cells #[.int .i64 0] 26)) p 44 [.pointer none] := by rw [← hp]; exact ((Blk.new w _ _).alloc _).alloc _
  have P1 : Blk (((w.alloc (.cells #[.pointer none] 44)).alloc (.cells #[.int .i64 0] 3)).alloc (.cells #[.int .i64 0] 26)) (p + 1) 3 [.int .i64 0] := by
    have := (Blk.new (w.alloc (.cells #[.pointer none] 44)) [.int .i64 0] 3).alloc (.cells #[.int .i64 0] 26)
    simpa [hp] using this
  have P2 : Blk (((w.alloc (.cells #[.pointer none] 44)).alloc (.cells #[.int .i64 0] 3)).alloc (.cells #[.int .i64 0] 26)) (p + 2) 26 [.int .i64 0] := by
    have := Blk.new ((w.alloc (.cells #[.pointer none] 44)).alloc (.cells #[.int .i64 0] 3)) [.int .i64 0] 26
    simpa [hp] using this
  obtain ⟨W, hW⟩ : ∃ W, ((w.alloc (.cells #[.pointer none] 44)).alloc (.cells #[.int .i64 0] 3)).alloc (.cells #[.int .i64 0] 26) = W := ⟨_, rfl⟩
  rw [hW] at X2 P0 P1 P2
  have hsz : W.heap.size = p + 3 := by rw [← hW]; simp [hp]
  replace X2 := hidden X2
  replace hW := hidden hW
  go_enter_defers Tryz.func13, Tryz.ntmps13
  have door : ∀ (v0 : Option Addr) (c d : Int) (w2 : World) (a : Act) (hc : Chg [] w w2) (hb0 : Blk w2 p 44 [.pointer v0]) (hb1 : Blk w2 (p + 1) 3 [.int .i64 0]) (hb2 : Blk w2 (p + 2) 26 [.int .i64 0]), (∃ c', Src.readF L = .error c' ∧ (c'.1 : Int) = c ∧ c'.2 = d) →
      a.tmps[2]?.getD undef = .pointer (some ⟨p, 0, none⟩) → a.tmps[3]?.getD undef = .pointer (some ⟨p + 1, 0, none⟩) → a.tmps[4]?.getD undef = .pointer (some ⟨p + 2, 0, none⟩) →
      a.defers = [{ target := Target.fn (Fn.func 28) #[.pointer (some ⟨p, 0, none⟩), .pointer (some ⟨p + 1, 0, none⟩), .pointer (some ⟨p + 2, 0, none⟩)], args := #[] }] →
      bodyPostD Tryz.prog Tryz.f13 (ReadR n (Src.readF L) w) (Exit.panic [{ v := .iface 80 (.agg #[.int .i64 c, .int .i64 d]), recovered := false }]) a w2 := by
    intro v0 c d w2 a hc hb0 hb1 hb2 hR ha2 ha3 ha4 hd
    obtain ⟨tmps, defers⟩ := a
    simp only at ha2 ha3 ha4 hd
    subst hd
    refine leaves_cons (f := 28) (args := #[.pointer (some ⟨p, 0, none⟩), .pointer (some ⟨p + 1, 0, none⟩), .pointer (some ⟨p + 2, 0, none⟩)]) (by simp) (by simp [go_sem]) ?_
    refine (rrescue_panic p (p + 1) (p + 2) c d v0 0 0 w2 hb0 hb1 hb2 (by omega) (by omega) (by omega)).mono ?_
    rintro e2 u w3 ⟨rfl, rfl, h1, h2, h3, hc3⟩
    have hX : Ext w w3 := (hc.trans hc3 (fun x hx => by simp at hx; rw [hp]; omega)).ext
    have k1 := h1.cell 0 _ rfl
    have k2 := h2.cell 0 _ rfl
    have k3 := h3.cell 0 _ rfl
    have hfin : ReadR n (Src.readF L) w (.returned (.tuple #[.pointer none, .int .i64 c, .int .i64 d])) w3 := by
      obtain ⟨c', r1, r2, r3⟩ := hR
      unfold ReadR
      rw [r1]
      exact ⟨by rw [r2, r3], hX⟩
    simp [Leaves, settle, results, Tryz.f13, go_sem, ha2, ha3, ha4, k1, k2, k3]
    exact hfin
  replace door := hidden door
  by_cases hbig : 8192 < n
  · have hd : (8192 : Int) < (n : Int) := by omega
    have hR : Hid (Src.readF L = .error (0, 5)) := hidden (by unfold Src.readF; rw [hlen.out, if_pos hbig])
    have z0 := P0.cell 0 _ rfl
    have z1 := P1.cell 0 _ rfl
    have z2 := P2.cell 0 _ rfl
    have y0 := P0.frozen 0
    have y1 := P1.frozen 0
    have y2 := P2.frozen 0
    go_wp2_with fail
    have XA : Ext w (((w.alloc (.cells #[.pointer none] 44)).alloc (.cells #[.int .i64 0] 3)).alloc (.cells #[.int .i64 5] 26)) := (((Ext.refl w).alloc _).alloc _).alloc _
    have Q0 : Blk (((w.alloc (.cells #[.pointer none] 44)).alloc (.cells #[.int .i64 0] 3)).alloc (.cells #[.int .i64 5] 26)) p 44 [.pointer none] := by rw [← hp]; exact ((Blk.new w _ _).alloc _).alloc _
    have Q1 : Blk (((w.alloc (.cells #[.pointer none] 44)).alloc (.cells #[.int .i64 0] 3)).alloc (.cells #[.int .i64 5] 26)) (p + 1) 3 [.int .i64 0] := by
      have := (Blk.new (w.alloc (.cells #[.pointer none] 44)) [.int .i64 0] 3).alloc (.cells #[.int .i64 5] 26)
      simpa [hp] using this
    have Q2 : Blk (((w.alloc (.cells #[.pointer none] 44)).alloc (.cells #[.int .i64 0] 3)).alloc (.cells #[.int .i64 5] 26)) (p + 1 + 1) 26 [.int .i64 5] := by
      have := Blk.new ((w.alloc (.cells #[.pointer none] 44)).alloc (.cells #[.int .i64 0] 3)) [.int .i64 5] 26
      simpa [hp] using this
    obtain ⟨W4, hW4⟩ : ∃ W, ((w.alloc (.cells #[.pointer none] 44)).alloc (.cells #[.int .i64 0] 3)).alloc (.cells #[.int .i64 5] 26) = W := ⟨_, rfl⟩
    rw [hW4] at XA Q0 Q1 Q2 ⊢
    have k0 := Q0.cell 0 _ rfl
    have k1 := Q1.cell 0 _ rfl
    have k2 := Q2.cell 0 _ rfl
    refine leaves_cons (f := 28) (args := #[.pointer (some ⟨p, 0, none⟩), .pointer (some ⟨p + 1, 0, none⟩), .pointer (some ⟨p + 1 + 1, 0, none⟩)]) (by simp) (by simp [go_sem]) ?_
    refine (rrescue_idle ⟨p, 0, none⟩ ⟨p + 1, 0, none⟩ ⟨p + 1 + 1, 0, none⟩ W4).mono ?_
    rintro e2 u w5 ⟨rfl, rfl, rfl⟩
    have hfin : ReadR n (Src.readF L) w (.returned (.tuple #[.pointer none, .int .i64 0, .int .i64 5])) w5 := by
      unfold ReadR
      rw [hR.out]
      exact ⟨rfl, XA⟩
    clear z0 z1 z2 y0 y1 y2
    simp [Leaves, settle, results, Tryz.f13, go_sem, k0, k1, k2]
    exact hfin
  · have hd : ¬ (8192 : Int) < (n : Int) := by omega
    have hR : Hid (Src.readF L = Src.loopF n (Src.wds L 0).length (Src.rs0 (Src.wds L 0))) := hidden (by unfold Src.readF; rw [hlen.out, if_neg hbig])
    have hsp := hsplit (by omega) W
    rw [hsz] at hsp
    have hws0 : Hid (∀ x ∈ Src.wds L 0, x.1.length ≤ 8192) := hidden (fun x hx => by have := wds_short _ L 0 x hx; rw [hlen.out] at this; omega)
    replace hsp := hidden hsp
    replace P0 := hidden P0
    replace P1 := hidden P1
    replace P2 := hidden P2
    clear hsplit
    go_wp2_with fail
    rw [hW.out]
    refine hsp.out.mono ?_
    rintro x w2 ⟨v, rfl, hO, X3⟩
    obtain ⟨nw, hnw⟩ : ∃ k, (Src.wds L 0).length = k := ⟨_, rfl⟩
    rw [hnw] at hO
    obtain ⟨av, cv, rfl, -⟩ := own_shape hO
    have z0 := (P0.out.ext X3).cell 0 _ rfl
    have y0 := (P0.out.ext X3).frozen 0
    obtain ⟨m, hm⟩ : ∃ k, w2.heap.size = k := ⟨_, rfl⟩
    have hmp : p + 3 ≤ m := by have := X3.size; omega
    have hmm : ∀ t w, (Instr.makeMap t none).run Tryz.prog w = .ok (.map (some w.heap.size)) (w.alloc (tblS [])) := fun _ _ => rfl
    have HP3 := (((P0.out.ext X3).alloc (tblS [])).alloc (.cells #[.slice av nw cv, .int .i64 (n : Int), .slice none 0 0, .int .i64 0, .slice none 0 0, .slice none 0 0, .slice none 0 0, .map (some m)] 50)).set 0 (.pointer (some ⟨m + 1, 0, none⟩))
    have z3 := HP3.cell 0 _ rfl
    have HB : Blk ((w2.alloc (tblS [])).alloc (.cells #[.slice av nw cv, .int .i64 (n : Int), .slice none 0 0, .int .i64 0, .slice none 0 0, .slice none 0 0, .slice none 0 0, .map (some m)] 50)) (m + 1) 50 [.slice av nw cv, .int .i64 (n : Int), .slice none 0 0, .int .i64 0, .slice none 0 0, .slice none 0 0, .slice none 0 0, .map (some m)] := blk_newAt' (w2.alloc (tblS [])) [.slice av nw cv, .int .i64 (n : Int), .slice none 0 0, .int .i64 0, .slice none 0 0, .slice none 0 0, .slice none 0 0, .map (some m)] _ _ (by simp [hm])
    have HM : ((w2.alloc (tblS [])).alloc (.cells #[.slice av nw cv, .int .i64 (n : Int), .slice none 0 0, .int .i64 0, .slice none 0 0, .slice none 0 0, .slice none 0 0, .map (some m)] 50)).heap[m]? = some (tblS []) := by
      have h1 : (w2.alloc (tblS [])).heap[m]? = some (tblS []) := by rw [← hm]; exact heap_alloc_new w2 _
      exact (Chg.of_ext [] ((Ext.refl (w2.alloc (tblS []))).alloc _)).heap (by simp) h1
    have XC : Ext w2 ((w2.alloc (tblS [])).alloc (.cells #[.slice av nw cv, .int .i64 (n : Int), .slice none 0 0, .int .i64 0, .slice none 0 0, .slice none 0 0, .slice none 0 0, .map (some m)] 50)) := ((Ext.refl w2).alloc _).alloc _
    obtain ⟨wc, hwc⟩ : ∃ W, (w2.alloc (tblS [])).alloc (.cells #[.slice av nw cv, .int .i64 (n : Int), .slice none 0 0, .int .i64 0, .slice none 0 0, .slice none 0 0, .slice none 0 0, .map (some m)] 50) = W := ⟨_, rfl⟩
    have hwcs : wc.heap.size = m + 2 := by rw [← hwc]; simp [hm]
    rw [hwc] at HP3 z3 HB HM XC
    have zc := ((P0.out.ext X3).ext XC).cell 0 _ rfl
    have yc := ((P0.out.ext X3).ext XC).frozen 0
    have HB3 := HB.set_other (show m + 1 ≠ p by omega) (i := 0) (.pointer (some ⟨m + 1, 0, none⟩))
    have HC3 := (Chg.refl [p] wc).setCell (p := ⟨p, 0, none⟩) (Or.inl (by simp)) (.pointer (some ⟨m + 1, 0, none⟩))
    obtain ⟨w3, hw3⟩ : ∃ W, wc.setCell ⟨p, 0, none⟩ (.pointer (some ⟨m + 1, 0, none⟩)) = W := ⟨_, rfl⟩
    have hw3s : w3.heap.size = m + 2 := by rw [← hw3, ← hwcs]; simp [World.setCell]
    rw [hw3] at HP3 z3 HB3 HC3
    -- the reader in memory
    have hP1 := ((P1.out.ext X3).ext XC).chg HC3 (by simp)
    have hP2 := ((P2.out.ext X3).ext XC).chg HC3 (by simp)
    have hChg : Chg [] w w3 := ((Chg.of_ext [] (X2.out.trans (X3.trans XC))).trans HC3 (fun x hx => by simp at hx; rw [hp]; omega))
    replace hO := hidden hO
    replace X3 := hidden X3
    replace hnw := hidden hnw
    have hdec := decl_any (m + 1) w3
    rw [hw3s] at hdec
    replace hdec := hidden hdec
    clear hsp
    go_wp2_with fail
    -- THE LOOP
    refine hdec.out.mono ?_
    rintro x w4 ⟨rfl, hw4⟩
    have X4 : Ext w3 w4 := by rw [← hw4]; exact ((Ext.refl w3).alloc _).alloc _
    have HD : w4.heap[m + 3]? = some (tblS (declT (m + 2) (m + 1))) := by
      rw [← hw4]
      have := heap_alloc_new (w3.alloc (.cells #[.pointer (some ⟨m + 1, 0, none⟩)] 44)) (tblS (declT (m + 2) (m + 1)))
      simpa [hw3s] using this
    have HX : Blk w4 (m + 2) 44 [.pointer (some ⟨m + 1, 0, none⟩)] := by
      rw [← hw4]
      exact (blk_newAt' w3 _ _ _ hw3s).alloc _
    have h4s : w4.heap.size = m + 4 := by rw [← hw4]; simp [hw3s]
    have hc4 : Chg [] w w4 := hChg.trans (Chg.of_ext [] X4) (by simp)
    have hO4 : w4.ownsRow (p + 3) 86 2 (.slice av nw cv) nw ((Src.wds L 0).flatMap cW) := own_ext (own_chg (own_ext hO.out XC) HC3 (by simp; intro h; have := own_lt hO.out h; omega)) X4
    have hRM : Hid (RMem w4 (m + 4) (m + 1) m n (Src.rs0 (Src.wds L 0))) := hidden ⟨.slice av nw cv, .slice none 0 0, .slice none 0 0, .slice none 0 0, .slice none 0 0, {
      blk := HB3.ext X4
      ws := by
        have := Rd.of_own hO4
        show Rd w4 2 _ (Src.wds L 0).length _
        rw [hnw.out]
        exact this
      wlo := fun x hx => by have h1 := own_lt hO.out hx; rw [hm] at h1; omega
      oA := World.ownsRow_nil _ _ _ _
      oC := World.ownsRow_nil _ _ _ _
      oa := World.ownsRow_nil _ _ _ _
      ol := World.ownsRow_nil _ _ _ _
      dis := fun x hx => by simp [Value.ownBlock] at hx
      map := ⟨[], (Chg.of_ext [] X4).heap (by simp) (HC3.heap (by simp; omega) HM), fun k => rfl⟩
      rB := by omega
      mB := by omega
      BS := by omega }⟩
    have hg0 : 3 < p := by
      obtain ⟨ev, h1, -⟩ := hErr
      have := cell_lt h1
      omega
    have hEG : Hid (EG (m + 4) (m + 1) m w4) := hidden ⟨by obtain ⟨ev, h1, h2⟩ := hErr; exact ⟨ev, hc4.cell (by simp) h1, h2⟩, by omega, by omega⟩
    have B0 := hidden (HP3.ext X4)
    have B1 := hidden (hP1.ext X4)
    have B2 := hidden (hP2.ext X4)
    have HD' := hidden HD
    have HX' := hidden HX
    have hc4' := hidden hc4
    have hR2 : Hid (Src.loopF n nw (Src.rs0 (Src.wds L 0)) = Src.readF L) := hidden (by rw [hR.out, hnw.out])
    clear hc4 HD HX hO4 X4 hw4 HP3 z3 HB HM XC hwc HB3 HC3 hw3 hP1 hP2 hChg zc yc hdec hErr z0 y0
    go_wp2_with fail
    go_loopg [6] nw (fun g _ wr => ∃ s : Src.RS, s.ws.length ≤ g ∧ Hid (Src.loopF n g s = Src.readF L) ∧ Hid (RMem wr (m + 4) (m + 1) m n s) ∧ Hid (KB (m + 4) (m + 1) m w4 wr) ∧ Hid (Src.RInv s) ∧ Hid (∀ x ∈ s.ws, x.1.length ≤ 8192))
    case atStart => exact ⟨_, by show (Src.wds L 0).length ≤ nw; rw [hnw.out]; exact Nat.le_refl _, hR2, hRM, KB.refl _ _ _ _, Src.rs0_inv _, hws0⟩
    case round =>
      obtain ⟨s, hsg, hlp, hM, hK, hI, hwb⟩ := hrel
      obtain ⟨vw, vA, vC, va, vl, hV⟩ := hM.out
      obtain ⟨aw, cw, hvw, -⟩ := Rd.shape hV.ws
      subst hvw
      have D0 := Blk.kb hK.out B0.out (by omega) (by omega) (by omega)
      have D1 := Blk.kb hK.out B1.out (by omega) (by omega) (by omega)
      have D2 := Blk.kb hK.out B2.out (by omega) (by omega) (by omega)
      have d0 := D0.cell 0 _ rfl
      have e0 := hV.blk.cell 0 _ rfl
      cases hws : s.ws with
      | nil =>
        rw [hws] at e0
        have hok : Hid (Src.readF L = .ok s) := hidden (by
          rw [← hlp.out]
          cases gk with
          | zero => rfl
          | succ g => unfold Src.loopF; rw [hws])
        have g0 := D0.frozen 0
        have d1 := D1.cell 0 _ rfl
        have d2 := D2.cell 0 _ rfl
        have g1 := D1.frozen 0
        have g2 := D2.frozen 0
        replace D0 := hidden D0
        replace D1 := hidden D1
        replace D2 := hidden D2
        replace hV := hidden hV
        have hws' := hidden hws
        clear hlp hsg hws
        go_wp2_with fail
        have hC9 : Chg [p, p + 1, p + 1 + 1] wr (((wr.setCell ⟨p, 0, none⟩ (.pointer (some ⟨m + 1, 0, none⟩))).setCell ⟨p + 1, 0, none⟩ (.int .i64 0)).setCell ⟨p + 1 + 1, 0, none⟩ (.int .i64 0)) := (((Chg.refl [p, p + 1, p + 1 + 1] wr).setCell (p := ⟨p, 0, none⟩) (Or.inl (by simp)) _).setCell (p := ⟨p + 1, 0, none⟩) (Or.inl (by simp)) _).setCell (p := ⟨p + 1 + 1, 0, none⟩) (Or.inl (by simp)) _
        have Q0 := ((D0.out.set 0 (.pointer (some ⟨m + 1, 0, none⟩))).set_other (show p ≠ p + 1 by omega) (i := 0) (.int .i64 0)).set_other (show p ≠ p + 1 + 1 by omega) (i := 0) (.int .i64 0)
        have Q1 := ((D1.out.set_other (show p + 1 ≠ p by omega) (i := 0) (.pointer (some ⟨m + 1, 0, none⟩))).set 0 (.int .i64 0)).set_other (show p + 1 ≠ p + 1 + 1 by omega) (i := 0) (.int .i64 0)
        have Q2 := ((D2.out.set_other (show p + 2 ≠ p by omega) (i := 0) (.pointer (some ⟨m + 1, 0, none⟩))).set_other (show p + 2 ≠ p + 1 by omega) (i := 0) (.int .i64 0)).set 0 (.int .i64 0)
        obtain ⟨W9, hW9⟩ : ∃ W, ((wr.setCell ⟨p, 0, none⟩ (.pointer (some ⟨m + 1, 0, none⟩))).setCell ⟨p + 1, 0, none⟩ (.int .i64 0)).setCell ⟨p + 1 + 1, 0, none⟩ (.int .i64 0) = W := ⟨_, rfl⟩
        have Q2' : Blk (((wr.setCell ⟨p, 0, none⟩ (.pointer (some ⟨m + 1, 0, none⟩))).setCell ⟨p + 1, 0, none⟩ (.int .i64 0)).setCell ⟨p + 1 + 1, 0, none⟩ (.int .i64 0)) (p + 1 + 1) 26 [.int .i64 0] := Q2
        rw [hW9] at hC9 Q0 Q1 Q2' ⊢
        have hh := hV.out
        have hlo3 : ∀ x ∈ [p, p + 1, p + 1 + 1], x < m := fun x hx => by simp at hx; omega
        have hV9 : RMem W9 (m + 4) (m + 1) m n s := ⟨_, _, _, _, _, {
          blk := hh.blk.chg hC9 (fun hm' => by have := hlo3 _ hm'; omega)
          ws := Rd.chg hh.ws hC9 (fun x hx hn' => by rw [hws'.out] at hn'; simp at hn')
          wlo := hh.wlo
          oA := own_chg hh.oA hC9 (fun x hx => own_base hh.oA (by have := hlo3 _ hx; omega))
          oC := own_chg hh.oC hC9 (fun x hx => own_base hh.oC (by have := hlo3 _ hx; omega))
          oa := own_chg hh.oa hC9 (fun x hx => own_base hh.oa (by have := hlo3 _ hx; omega))
          ol := own_chg hh.ol hC9 (fun x hx => own_base hh.ol (by have := hlo3 _ hx; omega))
          dis := hh.dis
          map := hh.map.chg hC9 (fun hm' => by have := hlo3 _ hm'; omega)
          rB := hh.rB
          mB := hh.mB
          BS := Nat.le_trans hh.BS hC9.size }⟩
        have hX9 : Ext w W9 := ((KB.out0 hc4'.out hK.out (by omega) (by omega) (by omega)).trans hC9 (fun x hx => Or.inr (by simp at hx; omega))).ext
        have k0 := Q0.cell 0 _ rfl
        have k1 := Q1.cell 0 _ rfl
        have k2 := Q2'.cell 0 _ rfl
        refine leaves_cons (f := 28) (args := #[.pointer (some ⟨p, 0, none⟩), .pointer (some ⟨p + 1, 0, none⟩), .pointer (some ⟨p + 1 + 1, 0, none⟩)]) (by simp) (by simp [go_sem]) ?_
        refine (rrescue_idle ⟨p, 0, none⟩ ⟨p + 1, 0, none⟩ ⟨p + 1 + 1, 0, none⟩ W9).mono ?_
        rintro e2 u w8 ⟨rfl, rfl, hw8⟩
        rw [hw8]
        have hfin : ReadR n (Src.readF L) w (.returned (.tuple #[.pointer (some ⟨m + 1, 0, none⟩), .int .i64 0, .int .i64 0])) W9 := by
          unfold ReadR
          rw [hok.out]
          exact ⟨_, _, _, rfl, hV9, by omega, hX9⟩
        clear d0 e0 d1 d2 g0 g1 g2 hw8 hW9
        simp [Leaves, settle, results, Tryz.f13, go_sem, k0, k1, k2]
        exact hfin
      | cons wd rest =>
        obtain ⟨tx, pl⟩ := wd
        rw [hws] at e0
        have e0' : wr.cell? ⟨m + 1, 0, none⟩ = some (.slice aw (rest.length + 1) cw) := e0
        cases gk with
        | zero => rw [hws] at hsg; simp at hsg
        | succ g =>
        obtain ⟨k, hk⟩ : ∃ k, rest.length = k := ⟨_, rfl⟩
        rw [hk] at e0'
        clear e0
        have e0 : wr.cell? ⟨m + 1, 0, none⟩ = some (.slice aw (k + 1) cw) := e0'
        clear e0'
        have hk0 : (0 : Int) < (k : Int) + 1 := by omega
        have hkc : ((k + 1 : Nat) : Int) = (k : Int) + 1 := by omega
        have hnx := next_any (m + 4) (m + 1) m n s wr hM.out
        have hnf : Src.nextF n s = ((tx, pl), { s with ws := rest }) := by unfold Src.nextF; rw [hws]
        rw [hnf] at hnx
        obtain ⟨T, hT⟩ : ∃ T : ByteArray, ba tx = T := ⟨_, rfl⟩
        have hv : vW (tx, pl) = .agg #[.string T, .int .i64 (pl : Int)] := by rw [← hT]; rfl
        rw [hv] at hnx
        have hst : Src.loopF n (g + 1) s = match Src.stepF n (tx, pl) { s with ws := rest } with
          | .error x => .error x
          | .ok s' => Src.loopF n g s' := by
          conv => lhs; unfold Src.loopF
          rw [hws]
          rfl
        rw [hlp.out] at hst
        have hlr : rest.length ≤ g := by rw [hws] at hsg; simpa using hsg
        have hI1 : Src.RInv { s with ws := rest } := hI.out.ws rest
        have hwb1 : ∀ x ∈ rest, x.1.length ≤ 8192 := fun x hx => hwb.out x (by rw [hws]; exact List.mem_cons_of_mem _ hx)
        obtain ⟨s1, hs1⟩ : ∃ t : Src.RS, { s with ws := rest } = t := ⟨_, rfl⟩
        have hs1w : s1.ws = rest := by rw [← hs1]
        rw [hs1] at hnx hst hI1
        rw [← hs1w] at hlr hwb1
        replace hst := hidden hst
        replace hnx := hidden hnx
        replace hI1 := hidden hI1
        replace hwb1 := hidden hwb1
        replace hlr := hidden hlr
        replace hT := hidden hT
        replace hk := hidden hk
        clear hlp hsg hws hnf hv hs1 hs1w hV hI hwb D1 D2
        go_wp2_with fail
        refine hnx.out.mono ?_
        rintro x w5 ⟨rfl, hR5, hC5⟩
        obtain ⟨w6, hw6⟩ : ∃ w6, w5.alloc (.cells #[.string T, .int .i64 (pl : Int)] 86) = w6 := ⟨_, rfl⟩
        obtain ⟨q6, hq6⟩ : ∃ q, w5.heap.size = q := ⟨_, rfl⟩
        have X6 : Ext w5 w6 := by rw [← hw6]; exact (Ext.refl w5).alloc _
        have HB6 : Blk w6 q6 86 [.string T, .int .i64 (pl : Int)] := by rw [← hw6]; exact blk_newAt' w5 _ _ _ hq6
        have hBSr : m + 4 ≤ wr.heap.size := by have := hK.out.size; omega
        have hBS5 : m + 4 ≤ w5.heap.size := by have := hC5.size; omega
        have hK6 : KB (m + 4) (m + 1) m w4 w6 := (hK.out.trans (KB.of_chg hC5 hBSr (fun x hx => by simp at hx; exact Or.inl hx))).trans (KB.of_ext X6 hBS5)
        have hM6 : RMem w6 (m + 4) (m + 1) m n s1 := hR5.ext X6
        have hE6 := hEG.out.kb hK6
        have u0 := HB6.cell 0 _ rfl
        have u1 := HB6.cell 1 _ rfl
        have D6 := Blk.kb hK6 B0.out (by omega) (by omega) (by omega)
        have d6 := D6.cell 0 _ rfl
        have hx6 := (Blk.kb hK6 HX'.out (by omega) (by omega) (by omega)).cell 0 _ rfl
        have hmap := hK6.heap (k := m + 3) (by omega) (by omega) (by omega) HD'.out
        have hdl := decl_look (m + 2) (m + 1) tx
        rw [show (⟨tx.toArray⟩ : ByteArray) = T from hT.out] at hdl
        have hK7 := hidden hK6
        clear hR5 hC5 X6 hBS5 hBSr HB6 hK6 hM hK D0 d0 e0 D6
        by_cases t1 : tx = Src.dBytes
        · rw [if_pos t1] at hdl
          have hlk := run_lookS (P := Tryz.prog) Tryz.underlying83 Tryz.underlying9 _ hmap T _ hdl
          have hrow := wrap1_any (m + 2) (m + 4) (m + 1) m n s1 w6 hx6 hM6 hwb1.out hE6 hI1.out
          have hsf : Hid (Src.stepF n (tx, pl) s1 = Src.arrayF n false s1) := hidden (by unfold Src.stepF; rw [if_pos t1])
          rw [← hsf.out] at hrow
          obtain ⟨R1, hR1⟩ : ∃ R, Src.stepF n (tx, pl) s1 = R := ⟨_, rfl⟩
          rw [hR1] at hrow
          have hst2 := hst.out
          rw [hR1] at hst2
          clear hmap hdl hsf hM6 hE6 t1 hst
          cases R1 with
          | error c =>
            unfold RowP at hrow
            simp only [failW] at hrow
            have hbad : Hid (Src.readF L = .error c) := hidden hst2
            replace hrow := hidden hrow
            clear hst2 hR1
            go_wp2_with fail
            refine hrow.out.mono ?_
            rintro x w8 ⟨rfl, hK8⟩
            have hK9 := hidden (hK7.out.trans hK8)
            clear hK8
            go_wp2_with fail
            exact door.out (some ⟨m + 1, 0, none⟩) (c.1 : Int) c.2 w8 _ (KB.out0 hc4'.out hK9.out (by omega) (by omega) (by omega)) (Blk.kb hK9.out B0.out (by omega) (by omega) (by omega)) (Blk.kb hK9.out B1.out (by omega) (by omega) (by omega)) (Blk.kb hK9.out B2.out (by omega) (by omega) (by omega)) ⟨c, hbad.out, rfl, rfl⟩ rfl rfl rfl rfl
          | ok s2 =>
            unfold RowP at hrow
            have hsuf := stepF_suf hR1
            have hnext : Hid (Src.loopF n g s2 = Src.readF L) := hidden hst2.symm
            have hlen2 : s2.ws.length ≤ g := by have := hsuf.length_le; have := hlr.out; omega
            have hI2 : Hid (Src.RInv s2) := hidden (Src.stepF_inv hI1.out hR1)
            have hwb2 : Hid (∀ x ∈ s2.ws, x.1.length ≤ 8192) := hidden (fun x hx => hwb1.out x (hsuf.mem hx))
            replace hrow := hidden hrow
            clear hst2 hR1 hsuf
            go_wp2_with fail
            refine hrow.out.mono ?_
            rintro x w8 ⟨rfl, hM8, hK8⟩
            have hK9 := hidden (hK7.out.trans hK8)
            have hM9 := hidden hM8
            clear hK8 hM8
            go_wp2_with fail
            go_roundg g
            case measure => omega
            case rel => exact ⟨s2, hlen2, hnext, hM9, hK9, hI2, hwb2⟩
        · by_cases t2 : tx = Src.dWords
          · rw [if_neg t1, if_pos t2] at hdl
            have hlk := run_lookS (P := Tryz.prog) Tryz.underlying83 Tryz.underlying9 _ hmap T _ hdl
            have hrow := wrap2_any (m + 2) (m + 4) (m + 1) m n s1 w6 hx6 hM6 hwb1.out hE6 hI1.out
            have hsf : Hid (Src.stepF n (tx, pl) s1 = Src.arrayF n true s1) := hidden (by unfold Src.stepF; rw [if_neg t1, if_pos t2])
            rw [← hsf.out] at hrow
            obtain ⟨R1, hR1⟩ : ∃ R, Src.stepF n (tx, pl) s1 = R := ⟨_, rfl⟩
            rw [hR1] at hrow
            have hst2 := hst.out
            rw [hR1] at hst2
            clear hmap hdl hsf hM6 hE6 t1 t2 hst
            cases R1 with
            | error c =>
              unfold RowP at hrow
              simp only [failW] at hrow
              have hbad : Hid (Src.readF L = .error c) := hidden hst2
              replace hrow := hidden hrow
              clear hst2 hR1
              go_wp2_with fail
              refine hrow.out.mono ?_
              rintro x w8 ⟨rfl, hK8⟩
              have hK9 := hidden (hK7.out.trans hK8)
              clear hK8
              go_wp2_with fail
              exact door.out (some ⟨m + 1, 0, none⟩) (c.1 : Int) c.2 w8 _ (KB.out0 hc4'.out hK9.out (by omega) (by omega) (by omega)) (Blk.kb hK9.out B0.out (by omega) (by omega) (by omega)) (Blk.kb hK9.out B1.out (by omega) (by omega) (by omega)) (Blk.kb hK9.out B2.out (by omega) (by omega) (by omega)) ⟨c, hbad.out, rfl, rfl⟩ rfl rfl rfl rfl
            | ok s2 =>
              unfold RowP at hrow
              have hsuf := stepF_suf hR1
              have hnext : Hid (Src.loopF n g s2 = Src.readF L) := hidden hst2.symm
              have hlen2 : s2.ws.length ≤ g := by have := hsuf.length_le; have := hlr.out; omega
              have hI2 : Hid (Src.RInv s2) := hidden (Src.stepF_inv hI1.out hR1)
              have hwb2 : Hid (∀ x ∈ s2.ws, x.1.length ≤ 8192) := hidden (fun x hx => hwb1.out x (hsuf.mem hx))
              replace hrow := hidden hrow
              clear hst2 hR1 hsuf
              go_wp2_with fail
              refine hrow.out.mono ?_
              rintro x w8 ⟨rfl, hM8, hK8⟩
              have hK9 := hidden (hK7.out.trans hK8)
              have hM9 := hidden hM8
              clear hK8 hM8
              go_wp2_with fail
              go_roundg g
              case measure => omega
              case rel => exact ⟨s2, hlen2, hnext, hM9, hK9, hI2, hwb2⟩
          · by_cases t3 : tx = Src.dLocal
            · rw [if_neg t1, if_neg t2, if_pos t3] at hdl
              have hlk := run_lookS (P := Tryz.prog) Tryz.underlying83 Tryz.underlying9 _ hmap T _ hdl
              have hrow := local_any (m + 4) (m + 1) m n s1 w6 hM6 hwb1.out (by rw [hI1.out.na]; have := hI1.out.a8; omega) (by have := hI1.out.l16; omega)
              have hsf : Hid (Src.stepF n (tx, pl) s1 = Src.localF n s1) := hidden (by unfold Src.stepF; rw [if_neg t1, if_neg t2, if_pos t3])
              rw [← hsf.out] at hrow
              obtain ⟨R1, hR1⟩ : ∃ R, Src.stepF n (tx, pl) s1 = R := ⟨_, rfl⟩
              rw [hR1] at hrow
              have hst2 := hst.out
              rw [hR1] at hst2
              clear hmap hdl hsf hM6 hE6 t1 t2 t3 hst
              cases R1 with
              | error c =>
                unfold RowP at hrow
                simp only [failW] at hrow
                have hbad : Hid (Src.readF L = .error c) := hidden hst2
                replace hrow := hidden hrow
                clear hst2 hR1
                go_wp2_with fail
                refine hrow.out.mono ?_
                rintro x w8 ⟨rfl, hK8⟩
                have hK9 := hidden (hK7.out.trans hK8)
                clear hK8
                go_wp2_with fail
                exact door.out (some ⟨m + 1, 0, none⟩) (c.1 : Int) c.2 w8 _ (KB.out0 hc4'.out hK9.out (by omega) (by omega) (by omega)) (Blk.kb hK9.out B0.out (by omega) (by omega) (by omega)) (Blk.kb hK9.out B1.out (by omega) (by omega) (by omega)) (Blk.kb hK9.out B2.out (by omega) (by omega) (by omega)) ⟨c, hbad.out, rfl, rfl⟩ rfl rfl rfl rfl
              | ok s2 =>
                unfold RowP at hrow
                have hsuf := stepF_suf hR1
                have hnext : Hid (Src.loopF n g s2 = Src.readF L) := hidden hst2.symm
                have hlen2 : s2.ws.length ≤ g := by have := hsuf.length_le; have := hlr.out; omega
                have hI2 : Hid (Src.RInv s2) := hidden (Src.stepF_inv hI1.out hR1)
                have hwb2 : Hid (∀ x ∈ s2.ws, x.1.length ≤ 8192) := hidden (fun x hx => hwb1.out x (hsuf.mem hx))
                replace hrow := hidden hrow
                clear hst2 hR1 hsuf
                go_wp2_with fail
                refine hrow.out.mono ?_
                rintro x w8 ⟨rfl, hM8, hK8⟩
                have hK9 := hidden (hK7.out.trans hK8)
                have hM9 := hidden hM8
                clear hK8 hM8
                go_wp2_with fail
                go_roundg g
                case measure => omega
                case rel => exact ⟨s2, hlen2, hnext, hM9, hK9, hI2, hwb2⟩
            · by_cases t4 : tx = Src.dConst
              · rw [if_neg t1, if_neg t2, if_neg t3, if_pos t4] at hdl
                have hlk := run_lookS (P := Tryz.prog) Tryz.underlying83 Tryz.underlying9 _ hmap T _ hdl
                have hrow := constant_any (m + 4) (m + 1) m n s1 w6 hM6 hwb1.out (by rw [hI1.out.na]; have := hI1.out.a8; omega) (by have := hI1.out.l16; omega) hE6 hI1.out
                have hsf : Hid (Src.stepF n (tx, pl) s1 = Src.constF n s1) := hidden (by unfold Src.stepF; rw [if_neg t1, if_neg t2, if_neg t3, if_pos t4])
                rw [← hsf.out] at hrow
                obtain ⟨R1, hR1⟩ : ∃ R, Src.stepF n (tx, pl) s1 = R := ⟨_, rfl⟩
                rw [hR1] at hrow
                have hst2 := hst.out
                rw [hR1] at hst2
                clear hmap hdl hsf hM6 hE6 t1 t2 t3 t4 hst
                cases R1 with
                | error c =>
                  unfold RowP at hrow
                  simp only [failW] at hrow
                  have hbad : Hid (Src.readF L = .error c) := hidden hst2
                  replace hrow := hidden hrow
                  clear hst2 hR1
                  go_wp2_with fail
                  refine hrow.out.mono ?_
                  rintro x w8 ⟨rfl, hK8⟩
                  have hK9 := hidden (hK7.out.trans hK8)
                  clear hK8
                  go_wp2_with fail
                  exact door.out (some ⟨m + 1, 0, none⟩) (c.1 : Int) c.2 w8 _ (KB.out0 hc4'.out hK9.out (by omega) (by omega) (by omega)) (Blk.kb hK9.out B0.out (by omega) (by omega) (by omega)) (Blk.kb hK9.out B1.out (by omega) (by omega) (by omega)) (Blk.kb hK9.out B2.out (by omega) (by omega) (by omega)) ⟨c, hbad.out, rfl, rfl⟩ rfl rfl rfl rfl
                | ok s2 =>
                  unfold RowP at hrow
                  have hsuf := stepF_suf hR1
                  have hnext : Hid (Src.loopF n g s2 = Src.readF L) := hidden hst2.symm
                  have hlen2 : s2.ws.length ≤ g := by have := hsuf.length_le; have := hlr.out; omega
                  have hI2 : Hid (Src.RInv s2) := hidden (Src.stepF_inv hI1.out hR1)
                  have hwb2 : Hid (∀ x ∈ s2.ws, x.1.length ≤ 8192) := hidden (fun x hx => hwb1.out x (hsuf.mem hx))
                  replace hrow := hidden hrow
                  clear hst2 hR1 hsuf
                  go_wp2_with fail
                  refine hrow.out.mono ?_
                  rintro x w8 ⟨rfl, hM8, hK8⟩
                  have hK9 := hidden (hK7.out.trans hK8)
                  have hM9 := hidden hM8
                  clear hK8 hM8
                  go_wp2_with fail
                  go_roundg g
                  case measure => omega
                  case rel => exact ⟨s2, hlen2, hnext, hM9, hK9, hI2, hwb2⟩
              · rw [if_neg t1, if_neg t2, if_neg t3, if_neg t4] at hdl
                have hlk := run_lookS_none (P := Tryz.prog) Tryz.underlying83 Tryz.underlying9 _ hmap T .nilFunc (by kernel_rfl) hdl
                have hrow := instr_any (m + 4) (m + 1) m n s1 tx pl T hT.out w6 hM6 hwb1.out hE6 hI1.out
                have hsf : Hid (Src.stepF n (tx, pl) s1 = Src.instrF n (tx, pl) s1) := hidden (by unfold Src.stepF; rw [if_neg t1, if_neg t2, if_neg t3, if_neg t4])
                rw [← hsf.out] at hrow
                obtain ⟨R1, hR1⟩ : ∃ R, Src.stepF n (tx, pl) s1 = R := ⟨_, rfl⟩
                rw [hR1] at hrow
                have hst2 := hst.out
                rw [hR1] at hst2
                clear hmap hdl hsf hM6 hE6 t1 t2 t3 t4 hst
                cases R1 with
                | error c =>
                  unfold RowP at hrow
                  simp only [failW] at hrow
                  have hbad : Hid (Src.readF L = .error c) := hidden hst2
                  replace hrow := hidden hrow
                  clear hst2 hR1
                  go_wp2_with fail
                  refine hrow.out.mono ?_
                  rintro x w8 ⟨rfl, hK8⟩
                  have hK9 := hidden (hK7.out.trans hK8)
                  clear hK8
                  go_wp2_with fail
                  exact door.out (some ⟨m + 1, 0, none⟩) (c.1 : Int) c.2 w8 _ (KB.out0 hc4'.out hK9.out (by omega) (by omega) (by omega)) (Blk.kb hK9.out B0.out (by omega) (by omega) (by omega)) (Blk.kb hK9.out B1.out (by omega) (by omega) (by omega)) (Blk.kb hK9.out B2.out (by omega) (by omega) (by omega)) ⟨c, hbad.out, rfl, rfl⟩ rfl rfl rfl rfl
                | ok s2 =>
                  unfold RowP at hrow
                  have hsuf := stepF_suf hR1
                  have hnext : Hid (Src.loopF n g s2 = Src.readF L) := hidden hst2.symm
                  have hlen2 : s2.ws.length ≤ g := by have := hsuf.length_le; have := hlr.out; omega
                  have hI2 : Hid (Src.RInv s2) := hidden (Src.stepF_inv hI1.out hR1)
                  have hwb2 : Hid (∀ x ∈ s2.ws, x.1.length ≤ 8192) := hidden (fun x hx => hwb1.out x (hsuf.mem hx))
                  replace hrow := hidden hrow
                  clear hst2 hR1 hsuf
                  go_wp2_with fail
                  refine hrow.out.mono ?_
                  rintro x w8 ⟨rfl, hM8, hK8⟩
                  have hK9 := hidden (hK7.out.trans hK8)
                  have hM9 := hidden hM8
                  clear hK8 hM8
                  go_wp2_with fail
                  go_roundg g
                  case measure => omega
                  case rel => exact ⟨s2, hlen2, hnext, hM9, hK9, hI2, hwb2⟩
end Go.Proofs.YthjnchjfmbblfaaGreatDoor
