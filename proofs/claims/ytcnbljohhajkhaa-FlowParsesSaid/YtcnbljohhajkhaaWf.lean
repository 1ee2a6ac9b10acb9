/- Layer 18: Parse of the program. -/
import Derived.Test.YtcnbljohhajkhaaWe
namespace Go.Proofs.Ytcnbljohhajkhaa
open Go.RowKit
set_option linter.unusedVariables false
set_option linter.unusedSimpArgs false
attribute [local go_sem ↓] Go.wp_at_zero Go.wp_at_succ

/-- The tree, the place, the error. -/
def parR (C : List (Int × Int)) : T × Int × Int :=
  if C.length ≤ 1024 then match wholeF C with
    | .error e => (.nil, (e : Int), 15)
    | .ok (t, _) => (t, 0, 0)
  else (.nil, 0, 6)
def ParP (w : World) (C : List (Int × Int)) (x : Ending) (w' : World) : Prop := ∃ v, x = .returned (.tuple #[v, .int .i64 (parR C).2.1, .int .i64 (parR C).2.2]) ∧ SubAt w' (fun k => w.heap.size ≤ k) v (parR C).1 ∧ Ext w w'

set_option maxRecDepth 100000 in
theorem parse_any (hL : ∀ C f, ListOK C f) (v : Value) (C : List (Int × Int)) (w : World) (h : Code18 w v C) :
    Calls Try.prog 11 #[v] w (ParP w C) := by
  obtain ⟨ad, cap, rfl, hcap, -⟩ := Rd.shape h
  obtain ⟨vv, hv⟩ : ∃ vv, Value.slice ad C.length cap = vv := ⟨_, rfl⟩
  rw [hv] at h ⊢
  replace h := hidden h
  obtain ⟨s, hs⟩ : ∃ s, w.heap.size = s := ⟨_, rfl⟩
  have X2 : Ext w ((w.alloc (.cells #[.int .i64 0] 3)).alloc (.cells #[.int .i64 0] 26)) := ((Ext.refl w).alloc _).alloc _
  have P0 : Blk ((w.alloc (.cells #[.int .i64 0] 3)).alloc (.cells #[.int .i64 0] 26)) s 3 [.int .i64 0] := by rw [← hs]; exact (Blk.new w _ _).alloc _
  have P1 : Blk ((w.alloc (.cells #[.int .i64 0] 3)).alloc (.cells #[.int .i64 0] 26)) (s + 1) 26 [.int .i64 0] := by
    have := Blk.new (w.alloc (.cells #[.int .i64 0] 3)) [.int .i64 0] 26
    simpa [hs] using this
  obtain ⟨W, hW⟩ : ∃ W, (w.alloc (.cells #[.int .i64 0] 3)).alloc (.cells #[.int .i64 0] 26) = W := ⟨_, rfl⟩
  rw [hW] at X2 P0 P1
  have hsz : W.heap.size = s + 2 := by rw [← hW]; simp [hs]
  replace hW := hidden hW
  replace X2 := hidden X2
  replace P0 := hidden P0
  replace P1 := hidden P1
  go_enter_defers Try.func11, Try.ntmps11
  have door : ∀ (p e : Int) (w2 : World) (a : Act) (hc : Chg [] w w2) (hb0 : Blk w2 s 3 [.int .i64 0]) (hb1 : Blk w2 (s + 1) 26 [.int .i64 0]), parR C = (.nil, p, e) → a.tmps[2]?.getD undef = .slice none 0 0 → a.tmps[3]?.getD undef = .pointer (some ⟨s, 0, none⟩) → a.tmps[4]?.getD undef = .pointer (some ⟨s + 1, 0, none⟩) →
      a.defers = [{ target := Target.fn (Fn.func 27) #[], args := #[.pointer (some ⟨s, 0, none⟩), .pointer (some ⟨s + 1, 0, none⟩)] }] →
      bodyPostD Try.prog Try.f11 (ParP w C) (Exit.panic [{ v := .iface 71 (.agg #[.int .i64 p, .int .i64 e]), recovered := false }]) a w2 := by
    intro p e w2 a hc hb0 hb1 hR ha2 ha3 ha4 hd
    obtain ⟨tmps, defers⟩ := a
    simp only at ha2 ha3 ha4 hd
    subst hd
    refine leaves_cons (f := 27) (args := #[.pointer (some ⟨s, 0, none⟩), .pointer (some ⟨s + 1, 0, none⟩)]) (by simp) (by simp [go_sem]) ?_
    refine (rescue_panic s (s + 1) p e 0 0 w2 (hb0.cell 0 _ rfl) (hb1.cell 0 _ rfl) (hb0.frozen 0) (hb1.frozen 0) (by omega)).mono ?_
    rintro e2 u w3 ⟨rfl, rfl, h1, h2, hc3⟩
    have hX : Ext w w3 := (hc.trans hc3 (fun x hx => by simp at hx; rw [hs]; omega)).ext
    have hfin : ParP w C (.returned (.tuple #[.slice none 0 0, .int .i64 p, .int .i64 e])) w3 := by
      unfold ParP
      rw [hR]
      exact ⟨_, rfl, SubAt.nil _ _, hX⟩
    simp [Leaves, settle, results, Try.f11, go_sem, ha2, ha3, ha4, h1, h2]
    exact hfin
  replace door := hidden door
  have hoff : Hid (Code18 W vv C) := hidden (h.out.ext X2.out)
  by_cases hl : C.length ≤ 1024
  · have hbeg := hidden (begin_any vv C W hoff.out hl)
    go_wp2_with fail
    rw [hW.out]
    refine hbeg.out.mono ?_
    rintro e w2 ⟨br, vp, rfl, hbr, hX2, hSt⟩
    have hX3 := X2.out.trans hX2
    have p0 := P0.out.ext hX2
    have p1 := P1.out.ext hX2
    have hwh := whole_any hL w2 W.heap.size br vv C vp hSt hX2.size hl
    have habove : ∀ x ∈ SS br vp none, s + 2 ≤ x := fun x hx => by have := hSt.above x hx; omega
    replace hwh := hidden hwh
    replace hX3 := hidden hX3
    replace p0 := hidden p0
    replace p1 := hidden p1
    replace hSt := hidden hSt
    have hs2 := hX2.size
    replace habove := hidden habove
    clear hX2 hbeg
    go_wp2_with fail
    refine hwh.out.mono ?_
    clear hwh
    rintro e w3 hP
    unfold WholeP at hP
    have hno : ∀ x ∈ SS br vp none, x ∈ ([] : List Nat) ∨ w.heap.size ≤ x := fun x hx => Or.inr (by have := habove.out x hx; omega)
    cases hw : wholeF C with
    | error er =>
      rw [hw] at hP
      obtain ⟨rfl, hc⟩ := hP
      have hR : parR C = (.nil, (er : Int), 15) := by unfold parR; rw [if_pos hl, hw]
      have q0 := p0.out.chg hc (fun hm => by have := habove.out _ hm; omega)
      have q1 := p1.out.chg hc (fun hm => by have := habove.out _ hm; omega)
      have hc2 : Chg [] w w3 := (Chg.of_ext [] hX3.out).trans hc hno
      unfold fail
      go_wp2_with fail
      exact door.out (er : Int) 15 w3 _ hc2 q0 q1 hR rfl rfl rfl rfl
    | ok r =>
      rw [hw] at hP
      obtain ⟨t, P⟩ := r
      obtain ⟨v, cs, rfl, hO, ho, hF, hS2, hc⟩ := hP
      have hR : parR C = (t, 0, 0) := by unfold parR; rw [if_pos hl, hw]
      have q0 := p0.out.chg hc (fun hm => by have := habove.out _ hm; omega)
      have q1 := p1.out.chg hc (fun hm => by have := habove.out _ hm; omega)
      have hc2 : Chg [] w w3 := (Chg.of_ext [] hX3.out).trans hc hno
      obtain ⟨va, vcp, rfl, -⟩ := own_shape hO
      have z0 := q0.cell 0 _ rfl
      have z1 := q1.cell 0 _ rfl
      have y0 := q0.frozen 0
      have y1 := q1.frozen 0
      have hsub : Hid (SubAt w3 (fun k => w2.heap.size ≤ k) (.slice va t.len vcp) t) := ⟨cs, Rd.of_own hO, fun k hn e => (own_lt hO e).1, hF.ext (Ext.refl w3) (fun k _ h => h.1)⟩
      replace q0 := hidden q0
      replace q1 := hidden q1
      replace hR := hidden hR
      replace hc2 := hidden hc2
      clear hO ho hF hS2 hc p0 p1
      go_wp2_with fail
      have b0 := (q0.out.set 0 (.int .i64 0)).set_other (c := s + 1) (i := 0) (by omega) (.int .i64 0)
      have b1 := (q1.out.set_other (c := s) (i := 0) (by omega) (.int .i64 0)).set 0 (.int .i64 0)
      have hcw : Chg [s, s + 1] w3 ((w3.setCell ⟨s, 0, none⟩ (.int .i64 0)).setCell ⟨s + 1, 0, none⟩ (.int .i64 0)) := ((Chg.refl _ w3).setCell (Or.inl (by simp)) _).setCell (Or.inl (by simp)) _
      obtain ⟨w4, hw4⟩ : ∃ w4, (w3.setCell ⟨s, 0, none⟩ (.int .i64 0)).setCell ⟨s + 1, 0, none⟩ (.int .i64 0) = w4 := ⟨_, rfl⟩
      rw [hw4] at b0 b1 hcw ⊢
      refine leaves_cons (f := 27) (args := #[.pointer (some ⟨s, 0, none⟩), .pointer (some ⟨s + 1, 0, none⟩)]) (by simp) (by simp [go_sem]) ?_
      refine (rescue_idle ⟨s, 0, none⟩ ⟨s + 1, 0, none⟩ w4).mono ?_
      rintro e2 u w5 ⟨rfl, rfl, rfl⟩
      have k0 := b0.cell 0 _ rfl
      have k1 := b1.cell 0 _ rfl
      have hfin : ParP w C (.returned (.tuple #[.slice va t.len vcp, .int .i64 0, .int .i64 0])) w5 := by
        unfold ParP
        rw [hR.out]
        refine ⟨_, rfl, ?_, (hc2.out.trans hcw (fun x hx => by simp at hx; rw [hs]; omega)).ext⟩
        exact hsub.out.chg hcw (fun x hx hq => by simp at hx; omega) (fun k _ h => by omega)
      simp [Leaves, settle, results, Try.f11, go_sem, k0, k1]
      exact hfin
  · have hbeg := hidden (begin_err vv C W hoff.out hl)
    have hR : parR C = (.nil, 0, 6) := by unfold parR; rw [if_neg hl]
    go_wp2_with fail
    rw [hW.out]
    refine hbeg.out.mono ?_
    rintro e w2 ⟨rfl, hw2⟩
    rw [hw2]
    unfold fail
    go_wp2_with fail
    exact door.out 0 6 W _ (Chg.of_ext [] X2.out) P0.out P1.out hR rfl rfl rfl rfl
end Go.Proofs.Ytcnbljohhajkhaa
