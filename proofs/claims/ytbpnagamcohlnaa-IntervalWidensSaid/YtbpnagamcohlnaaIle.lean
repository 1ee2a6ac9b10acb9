/- The walk of IntervalWidens. -/
import Derived.Test.YtbpnagamcohlnaaIlb
import Derived.Test.YtbpnagamcohlnaaIlc
import Derived.Deep.Cut
import Derived.LoopTactic
namespace Go.Proofs.Ytbpnagamcohlnaa
open Go.RowKit
attribute [local go_sem ↓] Go.wp_at_zero Go.wp_at_succ
set_option linter.unusedVariables false


def hcls (h : Int) : Int := if h < 255 then 3 else if h < 65535 then 2 else if h < 4294967295 then 1 else 0
def pot (l h : Int) : Int := (if l = 0 then 0 else 1) + hcls h
theorem pot_bd (l h : Int) : 0 ≤ pot l h ∧ pot l h ≤ 4 := by unfold pot hcls; (repeat' split) <;> omega
/-- What a round of IntervalWidens asks, in plain words. -/
theorem widen_law {xl xh a b : Int} (h1 : Ivl xl xh) (h2 : Ivl a b) : ∃ yl yh, widL xl xh a b = yl ∧ widH xl xh a b = yh ∧ Ivl yl yh ∧ witB xl xh yl yh = true ∧ witB a b yl yh = true ∧
    widL yl yh a b = yl ∧ widH yl yh a b = yh ∧ ((yl = xl ∧ yh = xh) ∨ pot yl yh + 1 ≤ pot xl xh) := by
  have h0 := (ord_iff xl xh a b).2 ⟨h1, h2⟩
  have hb : Ivl (if a < xl then 0 else xl) (if xh < b then lim b else xh) := by
    unfold Ivl lim at *; (repeat' split) <;> omega
  have h3 := (ord_iff (if a < xl then 0 else xl) (if xh < b then lim b else xh) a b).2 ⟨hb, h2⟩
  refine ⟨if a < xl then 0 else xl, if xh < b then lim b else xh, by simp [widL, h0], by simp [widH, h0], hb, ?_, ?_, ?_, ?_, ?_⟩
  · rw [wit_iff]; refine ⟨h1, hb, ?_, ?_⟩ <;> (unfold Ivl lim at *; (repeat' split) <;> omega)
  · rw [wit_iff]; refine ⟨h2, hb, ?_, ?_⟩ <;> (unfold Ivl lim at *; (repeat' split) <;> omega)
  · unfold widL; rw [if_pos h3]; unfold Ivl lim at *; (repeat' split) <;> omega
  · unfold widH; rw [if_pos h3]; unfold Ivl lim at *; (repeat' split) <;> omega
  · unfold pot hcls; unfold Ivl lim at *; (repeat' split) <;> omega
def ivs (l : List (Int × Int)) : List Value := l.flatMap (fun x => ([.int .i64 x.1, .int .i64 x.2] : List Value))
theorem ivs_len (l : List (Int × Int)) : (ivs l).length = l.length * 2 := by
  unfold ivs
  induction l with
  | nil => rfl
  | cons x l ih => simp only [List.flatMap_cons, List.length_append, ih, List.length_cons]; simp; omega
theorem ivs_get (l : List (Int × Int)) (i : Nat) (hi : i < l.length) : (ivs l).getD (i * 2) undef = .int .i64 (l.getD i (0, 0)).1 ∧ (ivs l).getD (i * 2 + 1) undef = .int .i64 (l.getD i (0, 0)).2 := by
  unfold ivs
  induction l generalizing i with
  | nil => simp at hi
  | cons x l ih =>
    cases i with
    | zero => simp [List.getD]
    | succ i =>
      have := ih i (by simpa using hi)
      rw [List.flatMap_cons, show (i + 1) * 2 = i * 2 + 1 + 1 by omega]
      simpa [List.getD] using this
def RdI (w : World) (v : Value) (l : List (Int × Int)) : Prop := Rd w 2 v l.length (ivs l)
theorem RdI.at {w : World} {b off n cap : Nat} {l : List (Int × Int)} (h : RdI w (.slice (some ⟨b, off, none⟩) n cap) l) (i : Nat) (hi : i < l.length) :
    w.cell? ⟨b, off + i * 2, none⟩ = some (.int .i64 (l.getD i (0, 0)).1) ∧ w.cell? ⟨b, off + i * 2 + 1, none⟩ = some (.int .i64 (l.getD i (0, 0)).2) := by
  have h0 := h
  obtain ⟨h1, a', cap', h2, h3, h4, h5, h6⟩ := h
  simp only [Value.slice.injEq] at h2
  obtain ⟨rfl, rfl, -⟩ := h2
  obtain ⟨b', off', e, -, hc⟩ := h6 (by omega)
  simp only [Option.some.injEq, Addr.mk.injEq, and_true] at e
  obtain ⟨rfl, rfl⟩ := e
  obtain ⟨g1, g2⟩ := ivs_get l i hi
  have hl := ivs_len l
  refine ⟨?_, ?_⟩
  · rw [hc (i * 2) (by omega), g1]
  · rw [Nat.add_assoc, hc (i * 2 + 1) (by omega), g2]
set_option maxHeartbeats 2000000 in
theorem widens_bad (a b : Int) (v : Value) (l : List (Int × Int)) (h1 : ¬ Ivl a b) (w : World) (h : RdI w v l) : Calls Try.prog 5 #[.agg #[.int .i64 a, .int .i64 b], v] w fun x w' => x = .returned (.bool true) ∧ Ext w w' := by
  obtain ⟨ad, cap, rfl, q1, q2, q3⟩ := Rd.shape h
  go_enter Try.func5, Try.ntmps5
  go_wp2_with fail
  refine (check_no h1 _).mono ?_
  rintro e1 w1 ⟨n, kb, kc, kd, rfl, g1⟩
  clear kd
  go_wp2_with fail
  refine (awake_any _).mono ?_
  rintro e2 w2 ⟨rfl, g2⟩
  go_wp2_with fail
  go_ret
  exact ⟨rfl, g1.past.trans g2⟩
set_option maxHeartbeats 2000000 in
theorem widens_long (a b : Int) (v : Value) (l : List (Int × Int)) (h1 : Ivl a b) (hl : 50 < l.length) (w : World) (h : RdI w v l) : Calls Try.prog 5 #[.agg #[.int .i64 a, .int .i64 b], v] w fun x w' => x = .returned (.bool true) ∧ Ext w w' := by
  obtain ⟨ad, cap, rfl, q1, q2, q3⟩ := Rd.shape h
  have hl' : (50 : Int) < (l.length : Int) := by omega
  go_enter Try.func5, Try.ntmps5
  go_wp2_with fail
  refine (check_yes h1 _).mono ?_
  rintro e1 w1 ⟨rfl, g1⟩
  go_wp2_with fail
  refine (awake_any _).mono ?_
  rintro e2 w2 ⟨rfl, g2⟩
  go_wp2_with fail
  go_ret
  exact ⟨rfl, g1.past.trans g2⟩
set_option maxHeartbeats 4000000 in
theorem widens_good (a b : Int) (v : Value) (l : List (Int × Int)) (h1 : Ivl a b) (hl : l.length ≤ 50) (w : World) (h : RdI w v l) : Calls Try.prog 5 #[.agg #[.int .i64 a, .int .i64 b], v] w fun x w' => x = .returned (.bool true) ∧ Ext w w' := by
  obtain ⟨ad, cap, rfl, q1, q2, q3⟩ := Rd.shape h
  have hl' : ¬ (50 : Int) < (l.length : Int) := by omega
  have hl2 : (l.length : Int) ≤ 50 := by omega
  have Bx := Blk.new w [.int .i64 a, .int .i64 b] 23
  have hlt := Bx.lt
  have E0 : Ext w (w.alloc (.cells #[.int .i64 a, .int .i64 b] 23)) := (Ext.refl w).alloc _
  have hp0 := pot_bd a b
  go_enter Try.func5, Try.ntmps5
  go_wp2_with fail
  refine (check_yes h1 _).mono ?_
  rintro e1 w1 ⟨rfl, g1⟩
  replace Bx := Bx.ext g1
  replace E0 := E0.trans g1
  go_wp2_with fail
  go_loopw [5, 6] (fun ch i wr => ∃ (k : Nat) (c xl xh : Int), k ≤ l.length ∧ ch = .int .i64 c ∧ i = .int .i64 k ∧ 0 ≤ c ∧ Ivl xl xh ∧ Hid (c + pot xl xh ≤ 4) ∧ Blk wr w.heap.size 23 [.int .i64 xl, .int .i64 xh] ∧ Ext w wr) (fun _ i _ => (l.length - intOf i).toNat)
  case atStart => exact ⟨0, 0, a, b, by omega, rfl, rfl, by omega, h1, hidden (by omega), Bx, E0⟩
  case round =>
    obtain ⟨k, c, xl, xh, hk, rfl, rfl, hc0, hi, hpot, hB, hE⟩ := hrel
    have hx0 := hB.cell 0 _ rfl
    have hx1 := hB.cell 1 _ rfl
    have hf0 := hB.frozen 0
    have hf1 := hB.frozen 1
    have hc4 : c ≤ 4 := by have := hpot.out; have := pot_bd xl xh; omega
    by_cases hkl : k < l.length
    · have hkl' : (k : Int) < (l.length : Int) := by omega
      have hk0 : (0 : Int) ≤ (k : Int) := by omega
      obtain ⟨pb, po, rfl⟩ : ∃ b off, ad = some ⟨b, off, none⟩ := by
        obtain ⟨_, a', cap', h2, _, _, _, h6⟩ := h
        simp only [Value.slice.injEq] at h2
        obtain ⟨rfl, -, -⟩ := h2
        obtain ⟨b', off', e, -, -⟩ := h6 (by omega)
        exact ⟨b', off', e⟩
      obtain ⟨x1, x2⟩ := RdI.at h k hkl
      obtain ⟨⟨ia, ib⟩, hx⟩ : ∃ x, l.getD k (0, 0) = x := ⟨_, rfl⟩
      rw [hx] at x1 x2
      clear hx
      have y1 : _ = some (Value.int .i64 ia) := hE.cell x1
      have y2 : _ = some (Value.int .i64 ib) := hE.cell x2
      by_cases hiv : Ivl ia ib
      · obtain ⟨yl, yh, e1, e2, hyi, t1, t2, e3, e4, hch⟩ := widen_law hi hiv
        replace e1 := hidden e1
        replace e2 := hidden e2
        replace e3 := hidden e3
        replace e4 := hidden e4
        replace t1 := hidden t1
        replace t2 := hidden t2
        go_wp2_with fail
        refine (check_yes hiv _).mono ?_
        rintro e2' w2 ⟨rfl, g2⟩
        replace hB := hB.ext g2
        replace hE := hE.trans g2
        replace y1 := g2.cell y1
        replace y2 := g2.cell y2
        clear hx0 hx1 hf0 hf1 g2 x1 x2
        have hx0 := hB.cell 0 _ rfl
        have hx1 := hB.cell 1 _ rfl
        have n0 := World.new_ne w2 _ hx0
        have n1 := World.new_ne w2 _ hx1
        have n2 := World.new_ne w2 _ y1
        have n3 := World.new_ne w2 _ y2
        go_upto_region 8 with fail
        go_cut [7] (fun s7 wx => ∃ q, s7 = .pointer (some ⟨q, 0, none⟩) ∧ Blk wx q 23 [.int .i64 yl, .int .i64 yh] ∧ Ext w2 wx)
        case first =>
          go_region_held3 (fun w' => w'.cell? ⟨w.heap.size, 0, none⟩ = some (.int .i64 xl) ∧ w'.cell? ⟨w.heap.size, 1, none⟩ = some (.int .i64 xh) ∧ w'.cell? ⟨pb, po + k * 2, none⟩ = some (.int .i64 ia) ∧ w'.cell? ⟨pb, po + k * 2 + 1, none⟩ = some (.int .i64 ib)) (go_keep)
            (first | (go_at_call 17; refine (iv_at _ _ _ _ _ _ _ (by first | exact e1.out | exact e3.out) (by first | exact e2.out | exact e4.out) (widen_any _ _ _ _ _)).mono ?_; rintro e w5 ⟨rfl, g5⟩; (first | (have kq := newb (wr := w2) (t := 23) (cs := [.int .i64 0, .int .i64 0]) (by first | exact gX.size | exact Nat.le_refl _) g5; have kb := kq.2; have kb0 := kb.cell 0 _ rfl; have kb1 := kb.cell 1 _ rfl; have kf0 := kb.frozen 0; have kf1 := kb.frozen 1) | (have kq := newb_drew (wr := w2) (t := 23) (cs := [.int .i64 0, .int .i64 0]) (by first | exact gX.size | exact Nat.le_refl _) g5; have kb := kq.2; have kb0 := kb.cell 0 _ rfl; have kb1 := kb.cell 1 _ rfl; have kf0 := kb.frozen 0; have kf1 := kb.frozen 1) | (have kb := kb.ext g5; have kb0 := kb.cell 0 _ rfl; have kb1 := kb.cell 1 _ rfl; have kf0 := kb.frozen 0; have kf1 := kb.frozen 1) | skip); have gX : Ext w2 w5 := (by first | exact Ext.trans gX g5 | exact (Ext.trans gX g5.past) | exact g5.past_drew | exact g5.past_drew.past | exact g5); have j0 : w5.cell? ⟨w.heap.size, 0, none⟩ = some (.int .i64 xl) := gX.cell hx0; have j1 : w5.cell? ⟨w.heap.size, 1, none⟩ = some (.int .i64 xh) := gX.cell hx1; have j2 : w5.cell? ⟨pb, po + k * 2, none⟩ = some (.int .i64 ia) := gX.cell y1; have j3 : w5.cell? ⟨pb, po + k * 2 + 1, none⟩ = some (.int .i64 ib) := gX.cell y2; have m0 := World.new_ne w5 _ j0; have m1 := World.new_ne w5 _ j1; have m2 := World.new_ne w5 _ j2; have m3 := World.new_ne w5 _ j3))
          all_goals
            go_wp2_with fail
            go_meet
            first
              | exact ⟨w5.heap.size, rfl, Blk.new w5 [.int .i64 yl, .int .i64 yh] _, gX.alloc _⟩
              | exact ⟨_, rfl, (kb.set 0 _).set 1 _, (gX.setCell kq.1 _).setCell kq.1 _⟩
        case rest =>
          obtain ⟨q, rfl, By, gq⟩ := hcut
          rename_i wc
          replace hB := hB.ext gq
          replace hE := hE.trans gq
          replace y1 := gq.cell y1
          replace y2 := gq.cell y2
          clear hx0 hx1 n0 n1 n2 n3 gq
          have hx0 := hB.cell 0 _ rfl
          have hx1 := hB.cell 1 _ rfl
          have hy0 := By.cell 0 _ rfl
          have hy1 := By.cell 1 _ rfl
          go_upto_region 9 with fail
          go_region_held3 (fun w' => w'.cell? ⟨w.heap.size, 0, none⟩ = some (.int .i64 xl) ∧ w'.cell? ⟨w.heap.size, 1, none⟩ = some (.int .i64 xh) ∧ w'.cell? ⟨pb, po + k * 2, none⟩ = some (.int .i64 ia) ∧ w'.cell? ⟨pb, po + k * 2 + 1, none⟩ = some (.int .i64 ib) ∧ w'.cell? ⟨q, 0, none⟩ = some (.int .i64 yl) ∧ w'.cell? ⟨q, 1, none⟩ = some (.int .i64 yh)) (go_keep)
            (first | (go_at_call 17; refine (iv_at _ _ _ _ _ _ _ (by first | exact e1.out | exact e3.out) (by first | exact e2.out | exact e4.out) (widen_any _ _ _ _ _)).mono ?_; rintro e w5 ⟨rfl, g5⟩; have gX : Ext wc w5 := (by first | exact Ext.trans gX g5 | exact (Ext.trans gX g5.past) | exact g5.past_drew | exact g5.past_drew.past | exact g5); have j0 : w5.cell? ⟨w.heap.size, 0, none⟩ = some (.int .i64 xl) := gX.cell hx0; have j1 : w5.cell? ⟨w.heap.size, 1, none⟩ = some (.int .i64 xh) := gX.cell hx1; have j2 : w5.cell? ⟨pb, po + k * 2, none⟩ = some (.int .i64 ia) := gX.cell y1; have j3 : w5.cell? ⟨pb, po + k * 2 + 1, none⟩ = some (.int .i64 ib) := gX.cell y2; have j4 : w5.cell? ⟨q, 0, none⟩ = some (.int .i64 yl) := gX.cell hy0; have j5 : w5.cell? ⟨q, 1, none⟩ = some (.int .i64 yh) := gX.cell hy1) | (go_at_call 15; refine (bool_at _ _ _ _ _ (by first | exact t1.out | exact t2.out) (within_any _ _ _ _ _)).mono ?_; rintro e w5 ⟨rfl, g5⟩; have gX : Ext wc w5 := (by first | exact Ext.trans gX g5 | exact (Ext.trans gX g5.past) | exact g5.past_drew | exact g5.past_drew.past | exact g5); have j0 : w5.cell? ⟨w.heap.size, 0, none⟩ = some (.int .i64 xl) := gX.cell hx0; have j1 : w5.cell? ⟨w.heap.size, 1, none⟩ = some (.int .i64 xh) := gX.cell hx1; have j2 : w5.cell? ⟨pb, po + k * 2, none⟩ = some (.int .i64 ia) := gX.cell y1; have j3 : w5.cell? ⟨pb, po + k * 2 + 1, none⟩ = some (.int .i64 ib) := gX.cell y2; have j4 : w5.cell? ⟨q, 0, none⟩ = some (.int .i64 yl) := gX.cell hy0; have j5 : w5.cell? ⟨q, 1, none⟩ = some (.int .i64 yh) := gX.cell hy1))
          have fx0 := (hB.ext gX).frozen 0
          have fx1 := (hB.ext gX).frozen 1
          rcases hch with ⟨rfl, rfl⟩ | hch
          · go_wp2_with fail
            go_roundw
            case rel =>
              have hq1 := hB.ext gX
              exact ⟨k + 1, c, yl, yh, by omega, rfl, by go_num, by omega, hyi, hpot, (hq1.set 0 _).set 1 _, ((hE.trans gX).setCell (Nat.le_refl _) _).setCell (Nat.le_refl _) _⟩
            case measure => simp [intOf]; omega
          · have hch2 : ¬ (yl = xl ∧ yh = xh) := by rintro ⟨rfl, rfl⟩; omega
            have hpo := hpot.out
            replace hpot := hidden hch
            clear hch
            by_cases k1 : yl = xl
            · have k2 : (yh == xh) = false := by simp; omega
              subst k1
              clear hch2
              go_wp2_with fail
              go_roundw
              case rel =>
                have hq1 := hB.ext gX
                exact ⟨k + 1, c + 1, yl, yh, by omega, by go_num, by go_num, by omega, hyi, hidden (by have := hpot.out; omega), (hq1.set 0 _).set 1 _, ((hE.trans gX).setCell (Nat.le_refl _) _).setCell (Nat.le_refl _) _⟩
              case measure => simp [intOf]; omega
            · have k2 : (yl == xl) = false := by simp [k1]
              clear hch2 k1
              go_wp2_with fail
              go_roundw
              case rel =>
                have hq1 := hB.ext gX
                exact ⟨k + 1, c + 1, yl, yh, by omega, by go_num, by go_num, by omega, hyi, hidden (by have := hpot.out; omega), (hq1.set 0 _).set 1 _, ((hE.trans gX).setCell (Nat.le_refl _) _).setCell (Nat.le_refl _) _⟩
              case measure => simp [intOf]; omega
      · go_wp2_with fail
        refine (check_no hiv _).mono ?_
        rintro e2 w2 ⟨n, kb, kc, kd, rfl, g2⟩
        clear kd
        go_wp2_with fail
        go_roundw
        case rel => exact ⟨k + 1, c, xl, xh, by omega, rfl, by go_num, hc0, hi, hpot, hB.ext g2, hE.trans g2⟩
        case measure => simp [intOf]; omega
    · obtain rfl : k = l.length := by omega
      go_wp2_with fail
      refine (awake_any _).mono ?_
      rintro e2 w2 ⟨rfl, g2⟩
      go_wp2_with fail
      go_ret
      exact ⟨rfl, hE.trans g2⟩
theorem IntervalWidens_any (a b : Int) (v : Value) (l : List (Int × Int)) (ba0 : -9223372036854775808 ≤ a) (ba1 : a ≤ 9223372036854775807) (bb0 : -9223372036854775808 ≤ b) (bb1 : b ≤ 9223372036854775807) (hwf : ∀ x ∈ l, (-9223372036854775808 ≤ x.1 ∧ x.1 ≤ 9223372036854775807) ∧ (-9223372036854775808 ≤ x.2 ∧ x.2 ≤ 9223372036854775807)) (w : World) (h : Rd w 2 v l.length (l.flatMap (fun x : Int × Int => ([.int .i64 x.1, .int .i64 x.2] : List Value)))) : Calls Try.prog 5 #[.agg #[.int .i64 a, .int .i64 b], v] w fun x w' => x = .returned (.bool true) ∧ Ext w w' := by
  by_cases h1 : Ivl a b
  · by_cases hl : 50 < l.length
    · exact widens_long a b v l h1 hl w h
    · exact widens_good a b v l h1 (by omega) w h
  · exact widens_bad a b v l h1 w h
end Go.Proofs.Ytbpnagamcohlnaa
