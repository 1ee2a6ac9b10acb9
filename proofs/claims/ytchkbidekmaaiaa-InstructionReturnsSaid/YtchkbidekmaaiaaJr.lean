/- The reader of package instruction: fail, number, op. -/
import Derived.Test.YtchkbidekmaaiaaJm
import Derived.Test.YtchkbidekmaaiaaJp
namespace Go.Proofs.Ytchkbidekmaaiaa
open Go.RowKit
set_option linter.unusedVariables false
attribute [local go_sem ↓] Go.wp_at_zero Go.wp_at_succ

/-- What a reader holds: bytes, and an error. -/
structure Rdr (w : World) (q : Nat) (v : Value) (S : List Int) (e : Int) : Prop where
  blk : Blk w q 82 [v, .int .i64 e]
  rd : Rd8 w v S
/-- The bytes do not lie in a block. -/
def Av (v : Value) (S : List Int) (g : Nat) : Prop := 0 < S.length → v.ownBlock ≠ some g
def RdrPost (q : Nat) (w : World) (v : Value) (S S' : List Int) (e : Int) (w' : World) : Prop := ∃ v', Rdr w' q v' S' e ∧ Chg [q] w w' ∧ ∀ g, g < w.heap.size → Av v S g → Av v' S' g
theorem rdr_off {w : World} {q n c : Nat} {v : Value} {a : Option Addr} {S : List Int} {e : Int} (hR : Rd8 w v S) (hB : Blk w q 82 [.slice a n c, .int .i64 e]) : 0 < S.length → v.ownBlock ≠ some q := by
  intro hn
  exact Rd8.off_any hR hB (by intro u hu n; simp at hu; rcases hu with rfl | rfl <;> simp) hn
theorem rfail_any (q : Nat) (v : Value) (S : List Int) (e e2 : Int) (w : World) (hr0 : Rdr w q v S e) :
    Calls Try.prog 41 #[.pointer (some ⟨q, 0, none⟩), .int .i64 e2] w fun x w' => x = .returned (.tuple #[]) ∧ RdrPost q w v S S (if e = 0 then e2 else e) w' := by
  have hB := hr0.blk
  have hR := hr0.rd
  obtain ⟨a, cap, rfl, a1, a2, a3⟩ := Rd.shape hR
  have z0 := hB.cell 1 _ rfl
  have f0 := hB.frozen 1
  by_cases he : e = 0
  · subst he
    have hC := (Chg.refl [q] w).setCell (p := ⟨q, 1, none⟩) (Or.inl (by simp)) (.int .i64 e2)
    have h1 : Rdr (w.setCell ⟨q, 1, none⟩ (.int .i64 e2)) q (.slice a S.length cap) S e2 := ⟨hB.set 1 _, Rd.chg hR hC (by intro x hx hn; simp at hx; subst hx; exact rdr_off hR hB hn)⟩
    go_enter Try.func41, Try.ntmps41
    go_wp2_with fail
    go_end0
    exact ⟨rfl, _, h1, hC, fun g _ h => h⟩
  · have he' : (e == 0) = false := by simp [he]
    go_enter Try.func41, Try.ntmps41
    go_wp2_with fail
    go_end0
    exact ⟨rfl, _, hr0, Chg.refl _ _, fun g _ h => h⟩

def numF (most beyond : Int) (S : List Int) (e : Int) : Int × List Int × Int :=
  if e ≠ 0 then (0, S, e) else if (wrd S).1 ≠ 0 then (0, (wrd S).2.2, (wrd S).1) else if most < (wrd S).2.1 then (0, (wrd S).2.2, beyond) else ((wrd S).2.1, (wrd S).2.2, 0)
def opF (S : List Int) (e : Int) : Int × List Int × Int :=
  if e ≠ 0 then (0, S, e) else match S with
  | [] => (0, [], 9)
  | x :: r => (x, r, 0)
def RFPost (q : Nat) (w : World) (v : Value) (S : List Int) (r : Int × List Int × Int) (x : Ending) (w' : World) : Prop := x = .returned (.int .i64 r.1) ∧ RdrPost q w v S r.2.1 r.2.2 w'

set_option maxHeartbeats 1000000 in
theorem rnum_any (q : Nat) (v : Value) (S : List Int) (e most beyond : Int) (hb : Bytes S) (hS : S.length ≤ 900000) (w : World) (hr0 : Rdr w q v S e) :
    Calls Try.prog 39 #[.pointer (some ⟨q, 0, none⟩), .int .i64 most, .int .i64 beyond] w (RFPost q w v S (numF most beyond S e)) := by
  have hB := hr0.blk
  have hR := hr0.rd
  obtain ⟨a, cap, rfl, a1, a2, a3⟩ := Rd.shape hR
  have z0 := hB.cell 0 _ rfl
  have z1 := hB.cell 1 _ rfl
  by_cases he : e = 0
  · subst he
    have hq := hB.lt
    have hint := wint_any _ S hb hS _ hR
    obtain ⟨T, hT⟩ : ∃ T, wrd S = T := ⟨_, rfl⟩
    have hN : Hid (numF most beyond S 0 = if T.1 ≠ 0 then (0, T.2.2, T.1) else if most < T.2.1 then (0, T.2.2, beyond) else (T.2.1, T.2.2, 0)) := by show _ = _; unfold numF; rw [if_neg (by simp), hT]
    have hT0 : T.1 = 0 → 0 ≤ T.2.1 ∧ T.2.1 ≤ 9007199254740991 := by rw [← hT]; exact wrd_num S hb
    rw [hT] at hint
    obtain ⟨t0, t1, t2⟩ := T
    simp only at hN hT0
    clear hT hR
    go_enter Try.func39, Try.ntmps39
    go_wp2_with fail
    refine hint.mono ?_
    rintro e w1 ⟨v1, rfl, hO1, g1⟩
    have B1 := hB.ext g1
    obtain ⟨a1, c1, rfl, b1, b2, b3⟩ := Rd.shape hO1.rd
    have hC := ((Chg.refl [q] w1).setCell (p := ⟨q, 1, none⟩) (Or.inl (by simp)) (.int .i64 t0)).setCell (p := ⟨q, 0, none⟩) (Or.inl (by simp)) (.slice a1 t2.length c1)
    have B2 := (B1.set 1 (.int .i64 t0)).set 0 (.slice a1 t2.length c1)
    have R2 := Rd.chg hO1.rd hC (by intro x hx hn hv; simp at hx; subst hx; have := (own_lt hO1 hv).1; omega)
    have C2 := (Chg.of_ext [q] g1).trans hC (fun x hx => Or.inl hx)
    have hR2 : Rdr ((w1.setCell ⟨q, 1, none⟩ (.int .i64 t0)).setCell ⟨q, 0, none⟩ (.slice a1 t2.length c1)) q (.slice a1 t2.length c1) t2 t0 := ⟨B2, R2⟩
    have hAv : ∀ g, g < w.heap.size → Av (.slice a S.length cap) S g → Av (.slice a1 t2.length c1) t2 g := fun g hg _ _ hv => by have := (own_lt hO1 hv).1; omega
    have y0 := B1.cell 0 _ rfl
    have y1 := B1.cell 1 _ rfl
    have f0 := B1.frozen 0
    have f1 := B1.frozen 1
    clear z0 z1 hB B1 B2 R2
    by_cases h0 : t0 = 0
    · subst h0
      obtain ⟨n0, n1⟩ := hT0 rfl
      by_cases hm : most < t1
      · have hN2 : Hid (numF most beyond S 0 = (0, t2, beyond)) := by show _ = _; rw [hN.out, if_neg (by simp), if_pos hm]
        have hfl := fun w' (h : Rdr w' q (.slice a1 t2.length c1) t2 0) => rfail_any q _ t2 0 beyond w' h
        simp only [if_true] at hfl
        replace hfl := hidden hfl
        go_wp2_with fail
        refine (hfl.out _ hR2).mono ?_
        rintro e w3 ⟨rfl, v3, hR3, hC3, hA3⟩
        have hs2 := C2.size
        go_wp2_with fail
        go_ret
        show RFPost q w _ S (numF most beyond S 0) _ _
        rw [hN2.out]
        exact ⟨rfl, v3, hR3, C2.trans hC3 (fun x hx => Or.inl hx), fun g hg h => hA3 g (by omega) (hAv g hg h)⟩
      · have hN2 : Hid (numF most beyond S 0 = (t1, t2, 0)) := by show _ = _; rw [hN.out, if_neg (by simp), if_neg hm]
        go_wp2_with fail
        go_ret
        show RFPost q w _ S (numF most beyond S 0) _ _
        rw [hN2.out]
        exact ⟨rfl, _, hR2, C2, hAv⟩
    · have h0' : (t0 != 0) = true := by simp [h0]
      have hN2 : Hid (numF most beyond S 0 = (0, t2, t0)) := by show _ = _; rw [hN.out, if_pos h0]
      go_wp2_with fail
      go_ret
      show RFPost q w _ S (numF most beyond S 0) _ _
      rw [hN2.out]
      exact ⟨rfl, _, hR2, C2, hAv⟩
  · have he' : (e != 0) = true := by simp [he]
    have hN : Hid (numF most beyond S e = (0, S, e)) := if_pos he
    go_enter Try.func39, Try.ntmps39
    go_wp2_with fail
    go_ret
    show RFPost q w _ S (numF most beyond S e) _ _
    rw [hN.out]
    exact ⟨rfl, _, hr0, Chg.refl _ _, fun g _ h => h⟩

set_option maxHeartbeats 1000000 in
theorem rop_nil (q : Nat) (v : Value) (w : World) (hr0 : Rdr w q v [] 0) :
    Calls Try.prog 40 #[.pointer (some ⟨q, 0, none⟩)] w (RFPost q w v [] (0, [], 9)) := by
  have hB := hr0.blk
  have hR := hr0.rd
  obtain ⟨a, cap, rfl, a1, a2, a3⟩ := Rd.shape hR
  have z0 := hB.cell 0 _ rfl
  have z1 := hB.cell 1 _ rfl
  have hfl := fun w' v (h : Rdr w' q v [] 0) => rfail_any q v [] 0 9 w' h
  simp only [if_true] at hfl
  simp only [List.length_nil] at z0
  replace hfl := hidden hfl
  clear a1 a2 a3 hR hB
  go_enter Try.func40, Try.ntmps40
  go_wp2_with fail
  refine (hfl.out _ _ hr0).mono ?_
  rintro e w3 ⟨rfl, hR3⟩
  go_wp2_with fail
  go_ret
  exact ⟨rfl, hR3⟩
set_option maxHeartbeats 1000000 in
theorem rop_cons (q : Nat) (v : Value) (x : Int) (r : List Int) (hb : Bytes (x :: r)) (w : World) (hr0 : Rdr w q v (x :: r) 0) :
    Calls Try.prog 40 #[.pointer (some ⟨q, 0, none⟩)] w (RFPost q w v (x :: r) (x, r, 0)) := by
  have hB := hr0.blk
  have hR := hr0.rd
  obtain ⟨a, cap, rfl, a1, a2, a3⟩ := Rd.shape hR
  have z0 := hB.cell 0 _ rfl
  have z1 := hB.cell 1 _ rfl
  obtain ⟨x0, x1⟩ := hb x (by simp)
  obtain ⟨b, off, rfl, hblt⟩ := Rd8.some hR (by simp)
  have hc := Rd8.at hR 0 (by simp)
  simp at hc
  have hR' : Rd w 1 (.slice (some ⟨b, off, none⟩) (r.length + 1) cap) (r.length + 1) (bs (x :: r)) := hR
  obtain ⟨a2', c2, hrun, R2, hbl⟩ := cut_l (P := Try.prog) (t := 34) Try.underlying34 Try.sizeOf5 hR' 1 1 rfl (by omega)
  rw [Nat.add_sub_cancel] at hrun R2 hbl
  have R2' : Rd8 w (.slice a2' r.length c2) r := R2
  have hC := (Chg.refl [q] w).setCell (p := ⟨q, 0, none⟩) (Or.inl (by simp)) (.slice a2' r.length c2)
  have hAv : ∀ g, g < w.heap.size → Av (.slice (some ⟨b, off, none⟩) (x :: r).length cap) (x :: r) g → Av (.slice a2' r.length c2) r g := fun g _ h _ => hbl g (h (by simp))
  have hR3 : Rdr (w.setCell ⟨q, 0, none⟩ (.slice a2' r.length c2)) q (.slice a2' r.length c2) r 0 := ⟨hB.set 0 _, Rd.chg R2' hC (by intro x hx hn; simp at hx; subst hx; exact rdr_off R2' hB hn)⟩
  have f0 := hB.frozen 0
  obtain ⟨n, hn⟩ : ∃ n, r.length = n := ⟨_, rfl⟩
  simp only [List.length_cons] at z0
  rw [hn] at z0 hrun hC hR3 hAv
  have n1 : n + 1 ≤ 9223372036854775807 := by rw [List.length_cons] at a1; omega
  replace hn := hidden hn
  replace hAv := hidden hAv
  clear R2 R2' hR hR' a1 a2 a3 hB hr0 hb hbl
  go_enter Try.func40, Try.ntmps40
  go_wp2_with fail
  go_ret
  exact ⟨rfl, _, hR3, hC, hAv.out⟩
theorem rop_any (q : Nat) (v : Value) (S : List Int) (e : Int) (hb : Bytes S) (w : World) (hr0 : Rdr w q v S e) :
    Calls Try.prog 40 #[.pointer (some ⟨q, 0, none⟩)] w (RFPost q w v S (opF S e)) := by
  by_cases he : e = 0
  · subst he
    match S, hb, hr0 with
    | [], _, hr0 => exact rop_nil q v w hr0
    | x :: r, hb, hr0 => exact rop_cons q v x r hb w hr0
  · have hB := hr0.blk
    have hR := hr0.rd
    have z1 := hB.cell 1 _ rfl
    have he' : (e != 0) = true := by simp [he]
    have hN : Hid (opF S e = (0, S, e)) := if_pos he
    clear hB hR
    go_enter Try.func40, Try.ntmps40
    go_wp2_with fail
    go_ret
    show RFPost q w _ S (opF S e) _ _
    rw [hN.out]
    exact ⟨rfl, _, hr0, Chg.refl _ _, fun g _ h => h⟩
end Go.Proofs.Ytchkbidekmaaiaa
