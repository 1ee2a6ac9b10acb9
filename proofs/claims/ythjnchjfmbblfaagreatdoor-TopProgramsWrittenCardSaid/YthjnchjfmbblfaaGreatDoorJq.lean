/- Encode of package instruction. -/
import Derived.Test.YthjnchjfmbblfaaGreatDoorJo
import Derived.Test.YthjnchjfmbblfaaGreatDoorJk
import Derived.Test.YthjnchjfmbblfaaGreatDoorIb
import Derived.Deep.RegionHeld3
import Derived.Outline
import Derived.Test.YthjnchjfmbblfaaGreatDoorKb
import Derived.Deep.RegionLaw
import Derived.RegionTactic
namespace Go.Proofs.YthjnchjfmbblfaaGreatDoor
open Go.RowKit
set_option linter.unusedVariables false
attribute [local go_sem ↓] Go.wp_at_zero Go.wp_at_succ

/-- What is left by a function that returns bytes and an error. -/
def EncPost (w : World) (r : Int × List Int) (x : Ending) (w' : World) : Prop :=
  ∃ v', x = .returned (.tuple #[v', .int .i64 r.1]) ∧ Own8 w' w.heap.size v' r.2 ∧ Ext w w'
def encF (A : List (Bool × Int)) (L : Int) (C : List (Int × Int)) : Int × List Int := if formE A L C ≠ 0 then (formE A L C, []) else (0, progB A L C)

theorem arrs_ok : ∀ (l : List (Bool × Int)) (left : Int), left ≤ 65536 → arrs left l = 0 → ∀ x ∈ l, 1 ≤ x.2 ∧ x.2 ≤ 65536
  | [], _, _, _ => fun x hx => by cases hx
  | a :: r, left, hl, h => by
    by_cases hc : a.2 < 1 ∨ left < a.2
    · rw [show arrs left (a :: r) = 2 from if_pos hc] at h; cases h
    · rw [show arrs left (a :: r) = arrs (left - a.2) r from if_neg hc] at h
      have ih := arrs_ok r (left - a.2) (by omega) h
      intro x hx
      rcases List.mem_cons.1 hx with rfl | hx
      · omega
      · exact ih x hx
theorem codE_ok : ∀ (l : List (Int × Int)), codE l = 0 → ∀ x ∈ l, chkI x.1 x.2 = 0
  | [], _ => fun x hx => by cases hx
  | a :: r, h => by
    by_cases hc : chkI a.1 a.2 ≠ 0
    · rw [show codE (a :: r) = _ from if_pos hc] at h; exact absurd h hc
    · rw [show codE (a :: r) = codE r from if_neg hc] at h
      intro x hx
      rcases List.mem_cons.1 hx with rfl | hx
      · exact Decidable.not_not.1 hc
      · exact codE_ok r h x hx
theorem form_ok {A : List (Bool × Int)} {L : Int} {C : List (Int × Int)} (h : formE A L C = 0) :
    A.length ≤ 8 ∧ (∀ x ∈ A, 1 ≤ x.2 ∧ x.2 ≤ 65536) ∧ 0 ≤ L ∧ L ≤ 16 ∧ C.length ≤ 1024 ∧ codE C = 0 ∧ arrs 65536 A = 0 := by
  unfold formE at h
  by_cases h1 : arrE A ≠ 0
  · rw [if_pos h1] at h; exact absurd h h1
  · rw [if_neg h1] at h
    have h1 := Decidable.not_not.1 h1
    by_cases h2 : L < 0 ∨ 16 < L
    · rw [if_pos h2] at h; cases h
    · rw [if_neg h2] at h
      by_cases h3 : 1024 < C.length
      · rw [if_pos h3] at h; cases h
      · rw [if_neg h3] at h
        unfold arrE at h1
        by_cases h4 : 8 < A.length
        · rw [if_pos h4] at h1; cases h1
        · rw [if_neg h4] at h1
          exact ⟨by omega, arrs_ok A 65536 (by omega) h1, by omega, by omega, by omega, h, h1⟩
theorem wenc_8 (n : Int) (h0 : 0 ≤ n) (h1 : n ≤ 9007199254740991) : (wenc n).length ≤ 8 := by
  have := fur_7 n h0 h1
  rw [wenc_len]; omega
theorem encA_len (l : List (Bool × Int)) : (encA l).length ≤ 8 * l.length := by
  induction l with
  | nil => simp [encA]
  | cons a l ih =>
    have := wenc_8 (wnum (arrN a)) (wnum_bd _).1 (wnum_bd _).2
    have e : encA (a :: l) = wenc (wnum (arrN a)) ++ encA l := by simp [encA]
    rw [e, List.length_append, List.length_cons]; omega
theorem encC_len (l : List (Int × Int)) (h : ∀ x ∈ l, 0 ≤ x.2 ∧ x.2 ≤ 4294967295) : (encC l).length ≤ 9 * l.length := by
  induction l with
  | nil => simp [encC]
  | cons a l ih =>
    have h1 := h a (by simp)
    have := wenc_8 a.2 h1.1 (by omega)
    have e : encC (a :: l) = encI a ++ encC l := by simp [encC]
    have e2 : (encI a).length ≤ 9 := by unfold encI; split <;> simp <;> omega
    have := ih (fun x hx => h x (by simp [hx]))
    rw [e, List.length_append, List.length_cons]; omega
theorem chk_ok {op arg : Int} (h : chkI op arg = 0) : 0 ≤ op ∧ op < 36 := by
  unfold chkI at h
  by_cases h1 : isOp op = false
  · rw [if_pos h1] at h; cases h
  · have h2 : isOp op = true := by simpa using h1
    exact of_decide_eq_true h2
end Go.Proofs.YthjnchjfmbblfaaGreatDoor

/- The reader of package instruction: fail, number, op. -/
namespace Go.Proofs.YthjnchjfmbblfaaGreatDoor
open Go.RowKit
set_option linter.unusedVariables false
attribute [local go_sem ↓] Go.wp_at_zero Go.wp_at_succ

/-- What a reader holds: bytes, and an error. -/
structure Rdr (w : World) (q : Nat) (v : Value) (S : List Int) (e : Int) : Prop where
  blk : Blk w q 67 [v, .int .i64 e]
  rd : Rd8 w v S
/-- The bytes do not lie in a block. -/
def Av (v : Value) (S : List Int) (g : Nat) : Prop := 0 < S.length → v.ownBlock ≠ some g
def RdrPost (q : Nat) (w : World) (v : Value) (S S' : List Int) (e : Int) (w' : World) : Prop := ∃ v', Rdr w' q v' S' e ∧ Chg [q] w w' ∧ ∀ g, g < w.heap.size → Av v S g → Av v' S' g
theorem rdr_off {w : World} {q n c : Nat} {v : Value} {a : Option Addr} {S : List Int} {e : Int} (hR : Rd8 w v S) (hB : Blk w q 67 [.slice a n c, .int .i64 e]) : 0 < S.length → v.ownBlock ≠ some q := by
  intro hn
  exact Rd8.off_any hR hB (by intro u hu n; simp at hu; rcases hu with rfl | rfl <;> simp) hn
theorem rfail_any (q : Nat) (v : Value) (S : List Int) (e e2 : Int) (w : World) (hr0 : Rdr w q v S e) :
    Calls Tryz.prog 24 #[.pointer (some ⟨q, 0, none⟩), .int .i64 e2] w fun x w' => x = .returned (.tuple #[]) ∧ RdrPost q w v S S (if e = 0 then e2 else e) w' := by
  have hB := hr0.blk
  have hR := hr0.rd
  obtain ⟨a, cap, rfl, a1, a2, a3⟩ := Rd.shape hR
  have z0 := hB.cell 1 _ rfl
  have f0 := hB.frozen 1
  by_cases he : e = 0
  · subst he
    have hC := (Chg.refl [q] w).setCell (p := ⟨q, 1, none⟩) (Or.inl (by simp)) (.int .i64 e2)
    have h1 : Rdr (w.setCell ⟨q, 1, none⟩ (.int .i64 e2)) q (.slice a S.length cap) S e2 := ⟨hB.set 1 _, Rd.chg hR hC (by intro x hx hn; simp at hx; subst hx; exact rdr_off hR hB hn)⟩
    go_enter Tryz.func24, Tryz.ntmps24
    go_wp2_with fail
    go_end0
    exact ⟨rfl, _, h1, hC, fun g _ h => h⟩
  · have he' : (e == 0) = false := by simp [he]
    go_enter Tryz.func24, Tryz.ntmps24
    go_wp2_with fail
    go_end0
    exact ⟨rfl, _, hr0, Chg.refl _ _, fun g _ h => h⟩

def numF (most beyond : Int) (S : List Int) (e : Int) : Int × List Int × Int :=
  if e ≠ 0 then (0, S, e) else if (wrd S).1 ≠ 0 then (0, (wrd S).2.2, (wrd S).1) else if most < (wrd S).2.1 then (0, (wrd S).2.2, beyond) else ((wrd S).2.1, (wrd S).2.2, 0)
def opF (S : List Int) (e : Int) : Int × List Int × Int :=
  if e ≠ 0 then (0, S, e) else match S with
  | [] => (0, [], 9)
  | x :: r => (x, r, 0)
def RFPost (q : Nat) (w : World) (v : Value) (S : List Int) (r : Int × List Int × Int) (x : Ending) (w' : World) : Prop := x = .returned (.int .i64 r.1) ∧ RdrPost q w v S r.2.1 r.2.2 w'

set_option maxHeartbeats 1000000 in
theorem rnum_any (q : Nat) (v : Value) (S : List Int) (e most beyond : Int) (hb : Bytes S) (hS : S.length ≤ 900000) (w : World) (hr0 : Rdr w q v S e) :
    Calls Tryz.prog 21 #[.pointer (some ⟨q, 0, none⟩), .int .i64 most, .int .i64 beyond] w (RFPost q w v S (numF most beyond S e)) := by
  have hB := hr0.blk
  have hR := hr0.rd
  obtain ⟨a, cap, rfl, a1, a2, a3⟩ := Rd.shape hR
  have z0 := hB.cell 0 _ rfl
  have z1 := hB.cell 1 _ rfl
  by_cases he : e = 0
  · subst he
    have hq := hB.lt
    have hint := wint_any _ S hb hS _ hR
    obtain ⟨T, hT⟩ : ∃ T, wrd S = T := ⟨_, rfl⟩
    have hN : Hid (numF most beyond S 0 = if T.1 ≠ 0 then (0, T.2.2, T.1) else if most < T.2.1 then (0, T.2.2, beyond) else (T.2.1, T.2.2, 0)) := by show _ = _; unfold numF; rw [if_neg (by simp), hT]
    have hT0 : T.1 = 0 → 0 ≤ T.2.1 ∧ T.2.1 ≤ 9007199254740991 := by rw [← hT]; exact wrd_num S hb
    rw [hT] at hint
    obtain ⟨t0, t1, t2⟩ := T
    simp only at hN hT0
    clear hT hR
    go_enter Tryz.func21, Tryz.ntmps21
    go_wp2_with fail
    refine hint.mono ?_
    rintro e w1 ⟨v1, rfl, hO1, g1⟩
    have B1 := hB.ext g1
    obtain ⟨a1, c1, rfl, b1, b2, b3⟩ := Rd.shape hO1.rd
    have hC := ((Chg.refl [q] w1).setCell (p := ⟨q, 1, none⟩) (Or.inl (by simp)) (.int .i64 t0)).setCell (p := ⟨q, 0, none⟩) (Or.inl (by simp)) (.slice a1 t2.length c1)
    have B2 := (B1.set 1 (.int .i64 t0)).set 0 (.slice a1 t2.length c1)
    have R2 := Rd.chg hO1.rd hC (by intro x hx hn hv; simp at hx; subst hx; have := (own_lt hO1 hv).1; omega)
    have C2 := (Chg.of_ext [q] g1).trans hC (fun x hx => Or.inl hx)
    have hR2 : Rdr ((w1.setCell ⟨q, 1, none⟩ (.int .i64 t0)).setCell ⟨q, 0, none⟩ (.slice a1 t2.length c1)) q (.slice a1 t2.length c1) t2 t0 := ⟨B2, R2⟩
    have hAv : ∀ g, g < w.heap.size → Av (.slice a S.length cap) S g → Av (.slice a1 t2.length c1) t2 g := fun g hg _ _ hv => by have := (own_lt hO1 hv).1; omega
    have y0 := B1.cell 0 _ rfl
    have y1 := B1.cell 1 _ rfl
    have f0 := B1.frozen 0
    have f1 := B1.frozen 1
    clear z0 z1 hB B1 B2 R2
    by_cases h0 : t0 = 0
    · subst h0
      obtain ⟨n0, n1⟩ := hT0 rfl
      by_cases hm : most < t1
      · have hN2 : Hid (numF most beyond S 0 = (0, t2, beyond)) := by show _ = _; rw [hN.out, if_neg (by simp), if_pos hm]
        have hfl := fun w' (h : Rdr w' q (.slice a1 t2.length c1) t2 0) => rfail_any q _ t2 0 beyond w' h
        simp only [if_true] at hfl
        replace hfl := hidden hfl
        go_wp2_with fail
        refine (hfl.out _ hR2).mono ?_
        rintro e w3 ⟨rfl, v3, hR3, hC3, hA3⟩
        have hs2 := C2.size
        go_wp2_with fail
        go_ret
        show RFPost q w _ S (numF most beyond S 0) _ _
        rw [hN2.out]
        exact ⟨rfl, v3, hR3, C2.trans hC3 (fun x hx => Or.inl hx), fun g hg h => hA3 g (by omega) (hAv g hg h)⟩
      · have hN2 : Hid (numF most beyond S 0 = (t1, t2, 0)) := by show _ = _; rw [hN.out, if_neg (by simp), if_neg hm]
        go_wp2_with fail
        go_ret
        show RFPost q w _ S (numF most beyond S 0) _ _
        rw [hN2.out]
        exact ⟨rfl, _, hR2, C2, hAv⟩
    · have h0' : (t0 != 0) = true := by simp [h0]
      have hN2 : Hid (numF most beyond S 0 = (0, t2, t0)) := by show _ = _; rw [hN.out, if_pos h0]
      go_wp2_with fail
      go_ret
      show RFPost q w _ S (numF most beyond S 0) _ _
      rw [hN2.out]
      exact ⟨rfl, _, hR2, C2, hAv⟩
  · have he' : (e != 0) = true := by simp [he]
    have hN : Hid (numF most beyond S e = (0, S, e)) := if_pos he
    go_enter Tryz.func21, Tryz.ntmps21
    go_wp2_with fail
    go_ret
    show RFPost q w _ S (numF most beyond S e) _ _
    rw [hN.out]
    exact ⟨rfl, _, hr0, Chg.refl _ _, fun g _ h => h⟩

set_option maxHeartbeats 1000000 in
theorem rop_nil (q : Nat) (v : Value) (w : World) (hr0 : Rdr w q v [] 0) :
    Calls Tryz.prog 22 #[.pointer (some ⟨q, 0, none⟩)] w (RFPost q w v [] (0, [], 9)) := by
  have hB := hr0.blk
  have hR := hr0.rd
  obtain ⟨a, cap, rfl, a1, a2, a3⟩ := Rd.shape hR
  have z0 := hB.cell 0 _ rfl
  have z1 := hB.cell 1 _ rfl
  have hfl := fun w' v (h : Rdr w' q v [] 0) => rfail_any q v [] 0 9 w' h
  simp only [if_true] at hfl
  simp only [List.length_nil] at z0
  replace hfl := hidden hfl
  clear a1 a2 a3 hR hB
  go_enter Tryz.func22, Tryz.ntmps22
  go_wp2_with fail
  refine (hfl.out _ _ hr0).mono ?_
  rintro e w3 ⟨rfl, hR3⟩
  go_wp2_with fail
  go_ret
  exact ⟨rfl, hR3⟩
set_option maxHeartbeats 1000000 in
theorem rop_cons (q : Nat) (v : Value) (x : Int) (r : List Int) (hb : Bytes (x :: r)) (w : World) (hr0 : Rdr w q v (x :: r) 0) :
    Calls Tryz.prog 22 #[.pointer (some ⟨q, 0, none⟩)] w (RFPost q w v (x :: r) (x, r, 0)) := by
  have hB := hr0.blk
  have hR := hr0.rd
  obtain ⟨a, cap, rfl, a1, a2, a3⟩ := Rd.shape hR
  have z0 := hB.cell 0 _ rfl
  have z1 := hB.cell 1 _ rfl
  obtain ⟨x0, x1⟩ := hb x (by simp)
  obtain ⟨b, off, rfl, hblt⟩ := Rd8.some hR (by simp)
  have hc := Rd8.at hR 0 (by simp)
  simp at hc
  have hR' : Rd w 1 (.slice (some ⟨b, off, none⟩) (r.length + 1) cap) (r.length + 1) (bs (x :: r)) := hR
  obtain ⟨a2', c2, hrun, R2, hbl⟩ := cut_l (P := Tryz.prog) (t := 36) Tryz.underlying36 Tryz.sizeOf5 hR' 1 1 rfl (by omega)
  rw [Nat.add_sub_cancel] at hrun R2 hbl
  have R2' : Rd8 w (.slice a2' r.length c2) r := R2
  have hC := (Chg.refl [q] w).setCell (p := ⟨q, 0, none⟩) (Or.inl (by simp)) (.slice a2' r.length c2)
  have hAv : ∀ g, g < w.heap.size → Av (.slice (some ⟨b, off, none⟩) (x :: r).length cap) (x :: r) g → Av (.slice a2' r.length c2) r g := fun g _ h _ => hbl g (h (by simp))
  have hR3 : Rdr (w.setCell ⟨q, 0, none⟩ (.slice a2' r.length c2)) q (.slice a2' r.length c2) r 0 := ⟨hB.set 0 _, Rd.chg R2' hC (by intro x hx hn; simp at hx; subst hx; exact rdr_off R2' hB hn)⟩
  have f0 := hB.frozen 0
  obtain ⟨n, hn⟩ : ∃ n, r.length = n := ⟨_, rfl⟩
  simp only [List.length_cons] at z0
  rw [hn] at z0 hrun hC hR3 hAv
  have n1 : n + 1 ≤ 9223372036854775807 := by rw [List.length_cons] at a1; omega
  replace hn := hidden hn
  replace hAv := hidden hAv
  clear R2 R2' hR hR' a1 a2 a3 hB hr0 hb hbl
  go_enter Tryz.func22, Tryz.ntmps22
  go_wp2_with fail
  go_ret
  exact ⟨rfl, _, hR3, hC, hAv.out⟩
theorem rop_any (q : Nat) (v : Value) (S : List Int) (e : Int) (hb : Bytes S) (w : World) (hr0 : Rdr w q v S e) :
    Calls Tryz.prog 22 #[.pointer (some ⟨q, 0, none⟩)] w (RFPost q w v S (opF S e)) := by
  by_cases he : e = 0
  · subst he
    match S, hb, hr0 with
    | [], _, hr0 => exact rop_nil q v w hr0
    | x :: r, hb, hr0 => exact rop_cons q v x r hb w hr0
  · have hB := hr0.blk
    have hR := hr0.rd
    have z1 := hB.cell 1 _ rfl
    have he' : (e != 0) = true := by simp [he]
    have hN : Hid (opF S e = (0, S, e)) := if_pos he
    clear hB hR
    go_enter Tryz.func22, Tryz.ntmps22
    go_wp2_with fail
    go_ret
    show RFPost q w _ S (opF S e) _ _
    rw [hN.out]
    exact ⟨rfl, _, hr0, Chg.refl _ _, fun g _ h => h⟩
end Go.Proofs.YthjnchjfmbblfaaGreatDoor

/- The plain law of decoding (layer 15). -/
namespace Go.Proofs.YthjnchjfmbblfaaGreatDoor
open Go.RowKit
set_option linter.unusedVariables false

/-- A rest of bytes. -/
def Sub (S T : List Int) : Prop := ∃ k, T = S.drop k
theorem Sub.refl (S : List Int) : Sub S S := ⟨0, rfl⟩
theorem Sub.trans {S T U : List Int} (h : Sub S T) (k : Sub T U) : Sub S U := by
  obtain ⟨i, rfl⟩ := h; obtain ⟨j, rfl⟩ := k; exact ⟨i + j, by rw [List.drop_drop]⟩
theorem Sub.bytes {S T : List Int} (h : Sub S T) (hb : Bytes S) : Bytes T := by
  obtain ⟨i, rfl⟩ := h; exact fun x hx => hb x (List.mem_of_mem_drop hx)
theorem Sub.len {S T : List Int} (h : Sub S T) : T.length ≤ S.length := by
  obtain ⟨i, rfl⟩ := h; rw [List.length_drop]; omega
theorem numF_sub (most beyond : Int) (S : List Int) (e : Int) : Sub S (numF most beyond S e).2.1 := by
  unfold numF
  split
  · exact Sub.refl S
  · split
    · exact wrd_sub S
    · split <;> exact wrd_sub S
theorem numF_bd (most beyond : Int) (h0 : 0 ≤ most) (S : List Int) (hb : Bytes S) (e : Int) : 0 ≤ (numF most beyond S e).1 ∧ (numF most beyond S e).1 ≤ most := by
  unfold numF
  split
  · exact ⟨by simp, h0⟩
  · split
    · exact ⟨by simp, h0⟩
    · split
      · exact ⟨by simp, h0⟩
      · next h1 h2 h3 => exact ⟨(wrd_num S hb (Decidable.not_not.1 h2)).1, by simpa using h3⟩
theorem opF_sub (S : List Int) (e : Int) : Sub S (opF S e).2.1 := by
  unfold opF
  split
  · exact Sub.refl S
  · split
    · exact Sub.refl _
    · exact ⟨1, rfl⟩
theorem opF_bd (S : List Int) (hb : Bytes S) (e : Int) : 0 ≤ (opF S e).1 ∧ (opF S e).1 ≤ 255 := by
  unfold opF
  split
  · simp
  · split
    · simp
    · next _ y l => exact hb y (by simp)

def arrIt (S : List Int) (e : Int) : Nat → List (Bool × Int) × List Int × Int
  | 0 => ([], S, e)
  | k + 1 => ((arrIt S e k).1 ++ [((numF 9007199254740991 2 (arrIt S e k).2.1 (arrIt S e k).2.2).1 % 2 == 1, (numF 9007199254740991 2 (arrIt S e k).2.1 (arrIt S e k).2.2).1 / 2)], (numF 9007199254740991 2 (arrIt S e k).2.1 (arrIt S e k).2.2).2)
def argF (op : Int) (S : List Int) (e : Int) : Int × List Int × Int := if (opAt op).2.2.2.2 then numF 4294967295 2 S e else (0, S, e)
def codIt (S : List Int) (e : Int) : Nat → List (Int × Int) × List Int × Int
  | 0 => ([], S, e)
  | k + 1 => ((codIt S e k).1 ++ [((opF (codIt S e k).2.1 (codIt S e k).2.2).1, (argF (opF (codIt S e k).2.1 (codIt S e k).2.2).1 (opF (codIt S e k).2.1 (codIt S e k).2.2).2.1 (opF (codIt S e k).2.1 (codIt S e k).2.2).2.2).1)],
      (argF (opF (codIt S e k).2.1 (codIt S e k).2.2).1 (opF (codIt S e k).2.1 (codIt S e k).2.2).2.1 (opF (codIt S e k).2.1 (codIt S e k).2.2).2.2).2)
theorem argF_sub (op : Int) (S : List Int) (e : Int) : Sub S (argF op S e).2.1 := by
  unfold argF
  split
  · exact numF_sub _ _ _ _
  · exact Sub.refl S
theorem argF_bd (op : Int) (S : List Int) (hb : Bytes S) (e : Int) : 0 ≤ (argF op S e).1 ∧ (argF op S e).1 ≤ 4294967295 := by
  unfold argF
  split
  · exact numF_bd _ _ (by omega) _ hb _
  · simp
theorem arrIt_sub (S : List Int) (e : Int) (k : Nat) : Sub S (arrIt S e k).2.1 := by
  induction k with
  | zero => exact Sub.refl S
  | succ k ih => exact ih.trans (numF_sub _ _ _ _)
theorem codIt_sub (S : List Int) (e : Int) (k : Nat) : Sub S (codIt S e k).2.1 := by
  induction k with
  | zero => exact Sub.refl S
  | succ k ih => exact (ih.trans (opF_sub _ _)).trans (argF_sub _ _ _)
theorem arrIt_len (S : List Int) (e : Int) (k : Nat) : (arrIt S e k).1.length = k := by
  induction k with
  | zero => rfl
  | succ k ih => show (_ ++ [_]).length = _; simp [ih]
theorem codIt_len (S : List Int) (e : Int) (k : Nat) : (codIt S e k).1.length = k := by
  induction k with
  | zero => rfl
  | succ k ih => show (_ ++ [_]).length = _; simp [ih]
theorem arrIt_ok (S : List Int) (hb : Bytes S) (e : Int) (k : Nat) : OkA (arrIt S e k).1 := by
  induction k with
  | zero => intro x hx; cases hx
  | succ k ih =>
    intro x hx
    rcases List.mem_append.1 hx with hx | hx
    · exact ih x hx
    · simp only [List.mem_singleton] at hx
      subst hx
      have := numF_bd 9007199254740991 2 (by omega) _ ((arrIt_sub S e k).bytes hb) (arrIt S e k).2.2
      simp only
      omega
theorem codIt_ok (S : List Int) (hb : Bytes S) (e : Int) (k : Nat) : OkI (codIt S e k).1 := by
  induction k with
  | zero => intro x hx; cases hx
  | succ k ih =>
    intro x hx
    rcases List.mem_append.1 hx with hx | hx
    · exact ih x hx
    · simp only [List.mem_singleton] at hx
      subst hx
      have h1 := opF_bd _ ((codIt_sub S e k).bytes hb) (codIt S e k).2.2
      have h2 := argF_bd (opF (codIt S e k).2.1 (codIt S e k).2.2).1 _ (((codIt_sub S e k).trans (opF_sub _ (codIt S e k).2.2)).bytes hb) (opF (codIt S e k).2.1 (codIt S e k).2.2).2.2
      exact ⟨⟨by simp only; omega, by simp only; omega⟩, h2⟩
theorem arg_isOp (op : Int) : (opAt op).2.2.2.2 = true → isOp op = true := by
  unfold opAt isOp
  intro h
  by_cases hc : 0 ≤ op ∧ op < 36
  · exact decide_eq_true hc
  · rw [if_neg hc] at h; cases h
structure Dec where
  e : Int
  A : List (Bool × Int)
  L : Int
  C : List (Int × Int)
  r : List Int
/-- What Decode leaves. -/
def decG (S : List Int) : Dec :=
  let s1 := numF 8 6 S 0
  let s2 := arrIt s1.2.1 s1.2.2 s1.1.toNat
  let s3 := numF 9007199254740991 2 s2.2.1 s2.2.2
  let s4 := numF 1024 6 s3.2.1 s3.2.2
  let s5 := codIt s4.2.1 s4.2.2 s4.1.toNat
  ⟨if s5.2.2 = 0 then formE s2.1 s3.1 s5.1 else s5.2.2, s2.1, s3.1, s5.1, s5.2.1⟩
def decF (S : List Int) : Dec := if (decG S).e ≠ 0 then ⟨(decG S).e, [], 0, [], []⟩ else decG S
end Go.Proofs.YthjnchjfmbblfaaGreatDoor

/- Decode of package instruction: what its memory holds. -/
namespace Go.Proofs.YthjnchjfmbblfaaGreatDoor
open Go.RowKit
set_option linter.unusedVariables false
attribute [local go_sem ↓] Go.wp_at_zero Go.wp_at_succ

theorem arrInfo : (Tryz.prog.info? 63).map (fun i => (i.zero, i.size, i.bytes)) = some (some (.agg #[.bool false, .int .i64 0]), 2, 16) := by kernel_rfl
theorem insInfo : (Tryz.prog.info? 56).map (fun i => (i.zero, i.size, i.bytes)) = some (some (.agg #[.int .i64 0, .int .u32 0]), 2, 16) := by kernel_rfl
def DecPost (w : World) (r : Dec) (x : Ending) (w' : World) : Prop :=
  ∃ vA vC v, x = .returned (.tuple #[.agg #[vA, .int .i64 r.L, vC], v, .int .i64 r.e]) ∧ w'.ownsRow w.heap.size 63 2 vA r.A.length (r.A.flatMap cA) ∧ w'.ownsRow w.heap.size 56 2 vC r.C.length (r.C.flatMap cI) ∧ Own8 w' w.heap.size v r.r ∧ Ext w w'
theorem rdr_chg {S : List Nat} {w w' : World} {q : Nat} {v : Value} {T : List Int} {e : Int} (h : Rdr w q v T e) (k : Chg S w w') (hq : q ∉ S) (hS : ∀ x ∈ S, Av v T x) : Rdr w' q v T e :=
  ⟨h.blk.chg k hq, Rd.chg h.rd k (fun x hx hn => hS x hx hn)⟩
theorem rdr_ext {w w' : World} {q : Nat} {v : Value} {T : List Int} {e : Int} (h : Rdr w q v T e) (k : Ext w w') : Rdr w' q v T e := rdr_chg h (Chg.of_ext [] k) (by simp) (by simp)
theorem av_new {w : World} {v : Value} {T : List Int} (h : Rd8 w v T) {p : Nat} (hp : w.heap.size ≤ p) : Av v T p := Rd.off h hp

def nilP : List Value := [.slice none 0 0, .int .i64 0, .slice none 0 0]
/-- Where Decode stands: its reader, its program, its result. -/
structure St (w W : World) (v vA vC : Value) (S : List Int) (e : Int) (A : List (Bool × Int)) (L : Int) (C : List (Int × Int)) : Prop where
  rdr : Rdr W (w.heap.size + 1) v S e
  f0 : Av v S w.heap.size
  f2 : Av v S (w.heap.size + 1 + 1)
  fA : ∀ g, vA.ownBlock = some g → Av v S g
  fC : ∀ g, vC.ownBlock = some g → Av v S g
  p : Blk W (w.heap.size + 1 + 1) 25 [vA, .int .i64 L, vC]
  oA : W.ownsRow (w.heap.size + 1 + 1 + 1) 63 2 vA A.length (A.flatMap cA)
  oC : W.ownsRow (w.heap.size + 1 + 1 + 1) 56 2 vC C.length (C.flatMap cI)
  r : Blk W w.heap.size 25 nilP
  ext : Ext w W
theorem own_ne_own {w : World} {B B' : Nat} {e e' : TypeId} {sz sz' n n' g : Nat} {v v' : Value} {xs xs' : List Value} (h : w.ownsRow B e sz v n xs) (h' : w.ownsRow B' e' sz' v' n' xs') (hne : e ≠ e') (hg : v.ownBlock = some g) : v'.ownBlock ≠ some g := by
  intro hg'
  rcases h.2 with ⟨rfl, _⟩ | ⟨b, cap, cur, rfl, _, hb, _⟩
  · simp [Value.ownBlock] at hg
  · rcases h'.2 with ⟨rfl, _⟩ | ⟨b', cap', cur', rfl, _, hb', _⟩
    · simp [Value.ownBlock] at hg'
    · simp [Value.ownBlock] at hg hg'
      subst hg hg'
      rw [hb] at hb'
      simp at hb'
      exact hne hb'.2
section
variable {w W W' : World} {v vA vC : Value} {S : List Int} {e L : Int} {A : List (Bool × Int)} {C : List (Int × Int)}
theorem St.chg (h : St w W v vA vC S e A L C) {X : List Nat} (k : Chg X W W') (hX : ∀ x ∈ X, w.heap.size + 1 + 1 + 1 ≤ x ∧ vA.ownBlock ≠ some x ∧ vC.ownBlock ≠ some x ∧ Av v S x) : St w W' v vA vC S e A L C where
  rdr := rdr_chg h.rdr k (fun hm => by have := (hX _ hm).1; omega) (fun x hx => (hX x hx).2.2.2)
  f0 := h.f0
  f2 := h.f2
  fA := h.fA
  fC := h.fC
  p := h.p.chg k (fun hm => by have := (hX _ hm).1; omega)
  oA := own_chg h.oA k (fun x hx => (hX x hx).2.1)
  oC := own_chg h.oC k (fun x hx => (hX x hx).2.2.1)
  r := h.r.chg k (fun hm => by have := (hX _ hm).1; omega)
  ext := ((Chg.of_ext [] h.ext).trans k (fun x hx => Or.inr (by have := (hX x hx).1; omega))).ext
theorem St.more (h : St w W v vA vC S e A L C) (k : Ext W W') : St w W' v vA vC S e A L C := h.chg (Chg.of_ext [] k) (by simp)
theorem St.num (h : St w W v vA vC S e A L C) {S' : List Int} {e' : Int} (hp : RdrPost (w.heap.size + 1) W v S S' e' W') : ∃ v', St w W' v' vA vC S' e' A L C ∧ Chg [w.heap.size + 1] W W' ∧ (∀ g, g < W.heap.size → Av v S g → Av v' S' g) := by
  obtain ⟨v', h1, hC, hA⟩ := hp
  have hlt := h.p.lt
  have ha : ∀ g, vA.ownBlock = some g → w.heap.size + 1 + 1 + 1 ≤ g ∧ g < W.heap.size := fun g hg => own_lt h.oA hg
  have hc : ∀ g, vC.ownBlock = some g → w.heap.size + 1 + 1 + 1 ≤ g ∧ g < W.heap.size := fun g hg => own_lt h.oC hg
  exact ⟨v', {
    rdr := h1
    f0 := hA _ (by omega) h.f0
    f2 := hA _ (by omega) h.f2
    fA := fun g hg => hA g (ha g hg).2 (h.fA g hg)
    fC := fun g hg => hA g (hc g hg).2 (h.fC g hg)
    p := h.p.chg hC (by simp)
    oA := own_chg h.oA hC (fun x hx hv => by simp at hx; have := (ha x hv).1; omega)
    oC := own_chg h.oC hC (fun x hx hv => by simp at hx; have := (hc x hv).1; omega)
    r := h.r.chg hC (by simp)
    ext := ((Chg.of_ext [] h.ext).trans hC (fun x hx => Or.inr (by simp at hx; omega))).ext }, hC, hA⟩
/-- A store into the program. -/
theorem St.store (h : St w W v vA vC S e A L C) (i : Nat) (u : Value) {vA' vC' : Value} {A' : List (Bool × Int)} {L' : Int} {C' : List (Int × Int)} (hu : ([vA, .int .i64 L, vC] : List Value).set i u = [vA', .int .i64 L', vC'])
    (fA : ∀ g, vA'.ownBlock = some g → Av v S g) (fC : ∀ g, vC'.ownBlock = some g → Av v S g)
    (oA : W.ownsRow (w.heap.size + 1 + 1 + 1) 63 2 vA' A'.length (A'.flatMap cA)) (oC : W.ownsRow (w.heap.size + 1 + 1 + 1) 56 2 vC' C'.length (C'.flatMap cI)) :
    St w (W.setCell ⟨w.heap.size + 1 + 1, i, none⟩ u) v vA' vC' S e A' L' C' := by
  have hC := (Chg.refl [w.heap.size + 1 + 1] W).setCell (p := ⟨w.heap.size + 1 + 1, i, none⟩) (Or.inl (by simp)) u
  exact {
    rdr := rdr_chg h.rdr hC (by simp) (by simp; exact h.f2)
    f0 := h.f0
    f2 := h.f2
    fA := fA
    fC := fC
    p := by have := h.p.set i u; rw [hu] at this; exact this
    oA := own_chg oA hC (fun x hx hv => by simp at hx; have := (own_lt oA hv).1; omega)
    oC := own_chg oC hC (fun x hx hv => by simp at hx; have := (own_lt oC hv).1; omega)
    r := h.r.chg hC (by simp; omega)
    ext := ((Chg.of_ext [] h.ext).trans hC (fun x hx => Or.inr (by simp at hx; omega))).ext }
theorem St.setL (h : St w W v vA vC S e A L C) (L' : Int) : St w (W.setCell ⟨w.heap.size + 1 + 1, 1, none⟩ (.int .i64 L')) v vA vC S e A L' C :=
  h.store 1 _ rfl h.fA h.fC h.oA h.oC
/-- An array more. -/
theorem St.grownA (h : St w W v vA vC S e A L C) {o : Obj} {W3 : World} {v3 : Value} {xs : List Value} {n : Nat} (hown : W3.ownsRow (w.heap.size + 1 + 1 + 1) 63 2 v3 n xs) (hg : (W.alloc o).grownBy W3 vA.ownBlock) (hb : v3.ownBlock = vA.ownBlock ∨ v3.ownBlock = some (W.alloc o).heap.size) (x : Bool × Int) (hn : n = A.length + 1) (hx : xs = A.flatMap cA ++ cA x) :
    Blk W3 (w.heap.size + 1 + 1) 25 [vA, .int .i64 L, vC] ∧ St w (W3.setCell ⟨w.heap.size + 1 + 1, 0, none⟩ v3) v v3 vC S e (A ++ [x]) L C := by
  have h2 := h.more ((Ext.refl W).alloc o)
  have hl : ∀ g, vA.ownBlock = some g → w.heap.size + 1 + 1 + 1 ≤ g := fun g hg => (own_lt h.oA hg).1
  have hC : Chg vA.ownBlock.toList (W.alloc o) W3 := (Chg.refl _ (W.alloc o)).grown hg (fun k hk => Or.inl (by simp [hk]))
  have hp : Blk W3 (w.heap.size + 1 + 1) 25 [vA, .int .i64 L, vC] := h2.p.chg hC (fun hm => by simp only [Option.mem_toList] at hm; have := hl _ hm; omega)
  have hr := rdr_chg h2.rdr hC (fun hm => by simp only [Option.mem_toList] at hm; have := hl _ hm; omega) (fun x hx => by simp only [Option.mem_toList] at hx; exact h.fA x hx)
  have hoC := own_chg h2.oC hC (fun x hx => by simp only [Option.mem_toList] at hx; exact own_ne_own h2.oA h2.oC (by decide) hx)
  have hf3 : ∀ g, v3.ownBlock = some g → Av v S g := by
    intro g hg
    rcases hb with hb | hb
    · exact h.fA g (hb ▸ hg)
    · rw [hb] at hg
      injection hg with hg
      exact av_new h2.rdr.rd (by omega)
  subst hn hx
  have hoA : W3.ownsRow (w.heap.size + 1 + 1 + 1) 63 2 v3 (A ++ [x]).length ((A ++ [x]).flatMap cA) := by
    rw [List.length_append, List.flatMap_append]
    simpa using hown
  have hC2 := (Chg.refl [w.heap.size + 1 + 1] W3).setCell (p := ⟨w.heap.size + 1 + 1, 0, none⟩) (Or.inl (by simp)) v3
  refine ⟨hp, {
    rdr := rdr_chg hr hC2 (by simp) (by simp; exact h.f2)
    f0 := h.f0
    f2 := h.f2
    fA := hf3
    fC := h.fC
    p := hp.set 0 v3
    oA := own_chg hoA hC2 (fun x hx hv => by simp at hx; have := (own_lt hoA hv).1; omega)
    oC := own_chg hoC hC2 (fun x hx hv => by simp at hx; have := (own_lt hoC hv).1; omega)
    r := (h2.r.chg hC (fun hm => by simp only [Option.mem_toList] at hm; have := hl _ hm; omega)).chg hC2 (by simp; omega)
    ext := (((Chg.of_ext [] h2.ext).trans hC (fun x hx => by simp only [Option.mem_toList] at hx; exact Or.inr (by have := hl _ hx; omega))).trans hC2 (fun x hx => Or.inr (by simp at hx; omega))).ext }⟩
theorem St.grownC (h : St w W v vA vC S e A L C) {o : Obj} {W3 : World} {v3 : Value} {xs : List Value} {n : Nat} (hown : W3.ownsRow (w.heap.size + 1 + 1 + 1) 56 2 v3 n xs) (hg : (W.alloc o).grownBy W3 vC.ownBlock) (hb : v3.ownBlock = vC.ownBlock ∨ v3.ownBlock = some (W.alloc o).heap.size) (x : Int × Int) (hn : n = C.length + 1) (hx : xs = C.flatMap cI ++ cI x) :
    Blk W3 (w.heap.size + 1 + 1) 25 [vA, .int .i64 L, vC] ∧ St w (W3.setCell ⟨w.heap.size + 1 + 1, 2, none⟩ v3) v vA v3 S e A L (C ++ [x]) := by
  have h2 := h.more ((Ext.refl W).alloc o)
  have hl : ∀ g, vC.ownBlock = some g → w.heap.size + 1 + 1 + 1 ≤ g := fun g hg => (own_lt h.oC hg).1
  have hC : Chg vC.ownBlock.toList (W.alloc o) W3 := (Chg.refl _ (W.alloc o)).grown hg (fun k hk => Or.inl (by simp [hk]))
  have hp : Blk W3 (w.heap.size + 1 + 1) 25 [vA, .int .i64 L, vC] := h2.p.chg hC (fun hm => by simp only [Option.mem_toList] at hm; have := hl _ hm; omega)
  have hr := rdr_chg h2.rdr hC (fun hm => by simp only [Option.mem_toList] at hm; have := hl _ hm; omega) (fun x hx => by simp only [Option.mem_toList] at hx; exact h.fC x hx)
  have hoA := own_chg h2.oA hC (fun x hx => by simp only [Option.mem_toList] at hx; exact own_ne_own h2.oC h2.oA (by decide) hx)
  have hf3 : ∀ g, v3.ownBlock = some g → Av v S g := by
    intro g hg
    rcases hb with hb | hb
    · exact h.fC g (hb ▸ hg)
    · rw [hb] at hg
      injection hg with hg
      exact av_new h2.rdr.rd (by omega)
  subst hn hx
  have hoC : W3.ownsRow (w.heap.size + 1 + 1 + 1) 56 2 v3 (C ++ [x]).length ((C ++ [x]).flatMap cI) := by
    rw [List.length_append, List.flatMap_append]
    simpa using hown
  have hC2 := (Chg.refl [w.heap.size + 1 + 1] W3).setCell (p := ⟨w.heap.size + 1 + 1, 2, none⟩) (Or.inl (by simp)) v3
  refine ⟨hp, {
    rdr := rdr_chg hr hC2 (by simp) (by simp; exact h.f2)
    f0 := h.f0
    f2 := h.f2
    fA := h.fA
    fC := hf3
    p := hp.set 2 v3
    oA := own_chg hoA hC2 (fun x hx hv => by simp at hx; have := (own_lt hoA hv).1; omega)
    oC := own_chg hoC hC2 (fun x hx hv => by simp at hx; have := (own_lt hoC hv).1; omega)
    r := (h2.r.chg hC (fun hm => by simp only [Option.mem_toList] at hm; have := hl _ hm; omega)).chg hC2 (by simp; omega)
    ext := (((Chg.of_ext [] h2.ext).trans hC (fun x hx => by simp only [Option.mem_toList] at hx; exact Or.inr (by have := hl _ hx; omega))).trans hC2 (fun x hx => Or.inr (by simp at hx; omega))).ext }⟩
end
end Go.Proofs.YthjnchjfmbblfaaGreatDoor

/- Encode of package instruction: the walk. -/
namespace Go.Proofs.YthjnchjfmbblfaaGreatDoor
open Go.RowKit
set_option linter.unusedVariables false
attribute [local go_sem ↓] Go.wp_at_zero Go.wp_at_succ

theorem rd8_alloc {w : World} {v : Value} {l : List Int} (h : Rd8 w v l) (o : Obj) : Rd8 (w.alloc o) v l := Rd.alloc h o
theorem flag0 (w : World) : Calls Tryz.prog 27 #[.bool false] w fun x w' => x = .returned (.int .u32 0) ∧ w = w' := flag_any false w
theorem flag1 (w : World) : Calls Tryz.prog 27 #[.bool true] w fun x w' => x = .returned (.int .u32 1) ∧ w = w' := flag_any true w
theorem iencode_bad (va vc : Value) (A : List (Bool × Int)) (L : Int) (C : List (Int × Int)) (hA : OkA A) (hC : OkI C) (hL0 : -9223372036854775808 ≤ L) (hL1 : L ≤ 9223372036854775807) (hz : formE A L C ≠ 0) (w : World) (ra : Arr w va A) (rc : Cod w vc C) :
    Calls Tryz.prog 11 #[.agg #[va, .int .i64 L, vc]] w (EncPost w (encF A L C)) := by
  have hf := fun W (g : Ext w W) => iform_any va vc A L C hA hC hL0 hL1 W (Rd.ext ra g) (Rd.ext rc g)
  have hE : Hid (encF A L C = (formE A L C, [])) := by show _ = _; unfold encF; exact if_pos hz
  obtain ⟨e0, he0⟩ : ∃ e, formE A L C = e := ⟨_, rfl⟩
  rw [he0] at hf hz hE
  have hz' : (e0 != 0) = true := by simp [hz]
  replace hf := hidden hf
  clear he0 hz ra rc
  go_enter Tryz.func11, Tryz.ntmps11
  go_wp2_with fail
  refine (hf.out _ ((Ext.refl w).alloc _)).mono ?_
  rintro e w1 ⟨rfl, g1⟩
  go_wp2_with fail
  go_ret2
  show EncPost w (encF A L C) _ _
  rw [hE.out]
  exact ⟨_, rfl, World.ownsRow_nil _ _ _ _, g1.past⟩

set_option maxHeartbeats 4000000 in
set_option maxRecDepth 100000 in
theorem iencode_good (va vc : Value) (A : List (Bool × Int)) (L : Int) (C : List (Int × Int)) (hA : OkA A) (hC : OkI C) (hL0 : -9223372036854775808 ≤ L) (hL1 : L ≤ 9223372036854775807) (hz : formE A L C = 0) (w : World) (ra : Arr w va A) (rc : Cod w vc C) :
    Calls Tryz.prog 11 #[.agg #[va, .int .i64 L, vc]] w (EncPost w (encF A L C)) := by
  have hf := fun W (g : Ext w W) => iform_any va vc A L C hA hC hL0 hL1 W (Rd.ext ra g) (Rd.ext rc g)
  have hE : Hid (encF A L C = (0, progB A L C)) := by show _ = _; unfold encF; exact if_neg (by simp [hz])
  rw [hz] at hf
  obtain ⟨k1, k2, k3, k4, k5, k6, k7⟩ := form_ok hz
  obtain ⟨aa, ca, rfl, a1, a2, a3⟩ := Rd.shape ra
  obtain ⟨ac, cc, rfl, c1, c2, c3⟩ := Rd.shape rc
  obtain ⟨m, hm⟩ : ∃ m, A.length = m := ⟨_, rfl⟩
  obtain ⟨n, hn⟩ : ∃ n, C.length = n := ⟨_, rfl⟩
  have RA : Rd w 2 (.slice aa A.length ca) A.length (A.flatMap cA) := ra
  have RC : Rd w 2 (.slice ac C.length cc) C.length (C.flatMap cI) := rc
  rw [hn] at RC c1 k5
  rw [hm] at RA a1 k1
  simp only [hm, hn] at hf ⊢
  have wm : wnum (m : Int) = m := wnum_id (by omega) (by omega)
  have wn : wnum (n : Int) = n := wnum_id (by omega) (by omega)
  have wL : wnum L = L := wnum_id (by omega) (by omega)
  have HB : Blk (w.alloc (.cells #[.slice aa m ca, .int .i64 L, .slice ac n cc] 25)) w.heap.size 25 [.slice aa m ca, .int .i64 L, .slice ac n cc] := Blk.new w _ _
  have gB := (Ext.refl w).alloc (.cells #[.slice aa m ca, .int .i64 L, .slice ac n cc] 25)
  have k2 := hidden k2
  have k6 := hidden k6
  replace hm := hidden hm
  replace hn := hidden hn
  replace RA := hidden RA
  replace RC := hidden RC
  replace hC := hidden hC
  replace wm := hidden wm
  replace wn := hidden wn
  replace wL := hidden wL
  replace hf := hidden hf
  have hpi := fun (v : Value) (D : List Int) (n : Int) (hD : D.length ≤ 900000) (w : World) (h : Rd8 w v D) => wputint_any v D n hD w h
  replace hpi := hidden hpi
  clear hA hz ra rc k7
  go_enter Tryz.func11, Tryz.ntmps11
  go_wp2_with fail
  refine (hf.out _ gB).mono ?_
  rintro e w1 ⟨rfl, g1⟩
  have HB1 := HB.ext g1
  have X1 := gB.trans g1
  have p0 := HB1.cell 0 _ rfl
  have p1 := HB1.cell 1 _ rfl
  have p2 := HB1.cell 2 _ rfl
  go_wp2_with fail
  refine (hpi.out _ [] (m : Int) (by simp) _ (Rd8.nil _)).mono ?_
  rw [wm.out]
  rintro e w2 ⟨v2, rfl, hO2, g2⟩
  rw [List.nil_append] at hO2
  have HB2 := HB1.ext g2
  have X2 := X1.trans g2
  clear p0 p1 p2
  have p0 := HB2.cell 0 _ rfl
  have O2 : Own8 w2 w.heap.size v2 (wenc m) := own_mono hO2 X1.size
  go_wp2_with fail
  clear p0
  go_loopw [5, 24] (fun b i wr => ∃ (k : Nat), k ≤ m ∧ i = .int .i64 (k : Int) ∧ Own8 wr w.heap.size b (wenc m ++ encA (A.take k)) ∧ Blk wr w.heap.size 25 [.slice aa m ca, .int .i64 L, .slice ac n cc] ∧ Ext w wr) (fun _ i _ => m - (intOf i).toNat)
  case atStart => exact ⟨0, by omega, rfl, by simpa [encA] using O2, HB2, X2⟩
  case round =>
    obtain ⟨k, hk, rfl, hO, HBr, X⟩ := hrel
    by_cases hlt : k < m
    · obtain ⟨b, off, rfl, -, -⟩ := RA.out.cells (by omega)
      obtain ⟨x, hx, hxm⟩ := at_lt A (k := k) (by rw [hm.out]; exact hlt)
      obtain ⟨x0, x1⟩ := k2.out x hxm
      obtain ⟨c0, c1⟩ := rd2_at cA_len RA.out k x hx _ _ rfl
      have hdr : encA (A.take (k + 1)) = encA (A.take k) ++ wenc (wnum (arrN x)) := by
        rw [List.take_succ_eq_append_getElem (by rw [hm.out]; exact hlt), encA_snoc]
        rw [(List.getElem?_eq_some_iff.1 hx).2]
      obtain ⟨wd, sz⟩ := x
      simp only at x0 x1 c0 c1
      have d0 := X.cell c0
      have d1 := X.cell c1
      clear c0 c1 hx hxm
      replace hdr := hidden hdr
      have hl1 := wenc_8 (m : Int) (by omega) (by omega)
      have hl2 := encA_len (A.take k)
      have hl3 : (A.take k).length ≤ k := List.length_take_le _ _
      have hlD : (wenc m ++ encA (A.take k)).length ≤ 900000 := by rw [List.length_append]; omega
      clear hl1 hl2 hl3
      obtain ⟨D, hD⟩ : ∃ D, wenc m ++ encA (A.take k) = D := ⟨_, rfl⟩
      rw [hD] at hO hlD
      replace hD := hidden hD
      go_wp2_with fail
      have q1 : IntKind.i64.wrap (2 * sz) = 2 * sz := IntWalk.i64_in _ (by omega)
      have HR : Rd8 ((wr.alloc (.cells #[.bool wd, .int .i64 sz] 63)).drew) u5 D := (Rd.alloc hO.rd _).drew
      have r0 : (wr.alloc (.cells #[.bool wd, .int .i64 sz] 63)).cell? ⟨wr.heap.size, 0, none⟩ = some (.bool wd) := (Blk.new wr [.bool wd, .int .i64 sz] 63).cell 0 _ rfl
      have r1 : (wr.alloc (.cells #[.bool wd, .int .i64 sz] 63)).cell? ⟨wr.heap.size, 1, none⟩ = some (.int .i64 sz) := (Blk.new wr [.bool wd, .int .i64 sz] 63).cell 1 _ rfl
      have HB5 : Blk ((wr.alloc (.cells #[.bool wd, .int .i64 sz] 63)).drew) w.heap.size 25 [.slice (some ⟨b, off, none⟩) m ca, .int .i64 L, .slice ac n cc] := (HBr.alloc _).drew
      have X5 : Ext w ((wr.alloc (.cells #[.bool wd, .int .i64 sz] 63)).drew) := (X.alloc _).drew
      cases wd with
      | false =>
        have hn2 : 2 * sz = arrN (false, sz) := by simp [arrN]
        replace hn2 := hidden hn2
        have q2 : IntKind.i64.wrap 0 = 0 := IntWalk.i64_in _ (by omega)
        go_region_held3 (fun w' => w'.cell? ⟨wr.heap.size, 0, none⟩ = some (.bool false) ∧ w'.cell? ⟨wr.heap.size, 1, none⟩ = some (.int .i64 sz)) (go_keep)
          (first | (go_at_call 27; refine (flag0 _).mono ?_; rintro e _ ⟨rfl, rfl⟩) | (go_at_call 26; (with_reducible refine (hpi.out u5 D (2 * sz) hlD _ HR).mono ?_); rintro e w5 ⟨v5, rfl, hO5, g5⟩; have k0 := g5.cell r0; have k1 := g5.cell r1))
        clear r0 r1 k0 k1 q1 q2 HR d0 d1
        rw [hn2.out] at hO5
        have hO6 : Own8 w5 w.heap.size v5 (wenc m ++ encA (A.take (k + 1))) := by
          rw [hdr.out, ← List.append_assoc, hD.out]
          exact own_mono hO5 X5.size
        go_wp2_with fail
        go_roundw
        case rel => exact ⟨k + 1, by omega, by go_num, hO6, HB5.ext g5, X5.trans g5⟩
        case measure => simp [intOf]; omega
      | true =>
        have hn2 : 2 * sz + 1 = arrN (true, sz) := by simp [arrN]
        replace hn2 := hidden hn2
        have q2 : IntKind.i64.wrap 1 = 1 := IntWalk.i64_in _ (by omega)
        have q3 : IntKind.i64.wrap (2 * sz + 1) = 2 * sz + 1 := IntWalk.i64_in _ (by omega)
        go_region_held3 (fun w' => w'.cell? ⟨wr.heap.size, 0, none⟩ = some (.bool true) ∧ w'.cell? ⟨wr.heap.size, 1, none⟩ = some (.int .i64 sz)) (go_keep)
          (first | (go_at_call 27; refine (flag1 _).mono ?_; rintro e _ ⟨rfl, rfl⟩) | (go_at_call 26; (with_reducible refine (hpi.out u5 D (2 * sz + 1) hlD _ HR).mono ?_); rintro e w5 ⟨v5, rfl, hO5, g5⟩; have k0 := g5.cell r0; have k1 := g5.cell r1))
        clear r0 r1 k0 k1 q1 q2 q3 HR d0 d1
        rw [hn2.out] at hO5
        have hO6 : Own8 w5 w.heap.size v5 (wenc m ++ encA (A.take (k + 1))) := by
          rw [hdr.out, ← List.append_assoc, hD.out]
          exact own_mono hO5 X5.size
        go_wp2_with fail
        go_roundw
        case rel => exact ⟨k + 1, by omega, by go_num, hO6, HB5.ext g5, X5.trans g5⟩
        case measure => simp [intOf]; omega
    · obtain rfl : k = m := by omega
      have hlA : A.take k = A := List.take_of_length_le (by rw [hm.out]; exact Nat.le_refl _)
      rw [hlA] at hO
      clear hlA
      have hl1 := wenc_8 (k : Int) (by omega) (by omega)
      have hl2 := encA_len A
      rw [hm.out] at hl2
      have hlD : (wenc k ++ encA A).length ≤ 80 := by rw [List.length_append]; omega
      have hlD' : (wenc k ++ encA A).length ≤ 900000 := by omega
      clear hl1 hl2
      obtain ⟨D, hD⟩ : ∃ D, wenc k ++ encA A = D := ⟨_, rfl⟩
      rw [hD] at hO hlD hlD'
      replace hD := hidden hD
      have HR : Rd8 wr.drew u5 D := hO.rd.drew
      have r1 := HBr.cell 1 _ rfl
      have r2 := HBr.cell 2 _ rfl
      have l8 := wenc_8 L k3 (by omega)
      have L5 : (D ++ wenc L).length ≤ 900000 := by rw [List.length_append]; omega
      have L6 : (D ++ wenc L).length ≤ 88 := by rw [List.length_append]; omega
      go_wp2_with fail
      go_region_held3 (fun w' => w'.cell? ⟨w.heap.size, 1, none⟩ = some (.int .i64 L) ∧ w'.cell? ⟨w.heap.size, 2, none⟩ = some (.slice ac n cc)) (go_keep)
        (first
          | (go_at_call 26; (with_reducible refine (hpi.out u5 D L hlD' _ HR).mono ?_); rw [wL.out]; rintro e w5 ⟨v5, rfl, hO5, g5⟩; have k1 := g5.cell r1; have k2 := g5.cell r2)
          | (go_at_call 26; (with_reducible refine (hpi.out v5 (D ++ wenc L) (n : Int) L5 _ hO5.rd).mono ?_); rw [wn.out]; rintro e w6 ⟨v6, rfl, hO6, g6⟩; have j1 := g6.cell k1; have j2 := g6.cell k2))
      have hs5 := g5.size
      have hs0 := X.size
      obtain ⟨H, hH⟩ : ∃ H, D ++ wenc L ++ wenc n = H := ⟨_, rfl⟩
      rw [hH] at hO6
      have hHl : H.length ≤ 96 := by
        have := wenc_8 (n : Int) (by omega) (by omega)
        rw [← hH, List.length_append]; omega
      have O6 : Own8 w6 w.heap.size v6 H := own_mono hO6 (Nat.le_trans hs0 hs5)
      have X6 : Ext w w6 := (X.drew.trans g5).trans g6
      have HB6 : Blk w6 w.heap.size 25 [.slice aa k ca, .int .i64 L, .slice ac n cc] := (HBr.drew.ext g5).ext g6
      obtain ⟨i0, hi, hz0, hz1, hz2⟩ := info_parts u8info
      have hkn := known_any
      replace hkn := hidden hkn
      clear r1 r2 k1 k2 j1 j2 HR hO5 g5 g6 hO6 hs5 hs0 hO HBr X L5 L6 l8 hlD hlD' HB1 HB2 X1 X2 O2 hO2 g1 g2
      replace hH := hidden hH
      have r2 := HB6.cell 2 _ rfl
      go_wp2_with fail
      clear r2
      go_loopw [5, 50] (fun b i wr => ∃ (j : Nat), j ≤ n ∧ i = .int .i64 (j : Int) ∧ Own8 wr w.heap.size b (H ++ encC (C.take j)) ∧ Blk wr w.heap.size 25 [.slice aa k ca, .int .i64 L, .slice ac n cc] ∧ Ext w wr) (fun _ i _ => n - (intOf i).toNat)
      case atStart => exact ⟨0, by omega, rfl, by simpa [encC] using O6, HB6, X6⟩
      case round =>
        obtain ⟨j, hj, rfl, hO, HBr, X⟩ := hrel
        by_cases hlt : j < n
        · obtain ⟨b, off, rfl, -, -⟩ := RC.out.cells (by omega)
          obtain ⟨x, hx, hxm⟩ := at_lt C (k := j) (by rw [hn.out]; exact hlt)
          obtain ⟨-, x2, x3⟩ := hC.out x hxm
          have hck := codE_ok C k6.out x hxm
          obtain ⟨c0, c1⟩ := rd2_at cI_len RC.out j x hx _ _ rfl
          have hdr : encC (C.take (j + 1)) = encC (C.take j) ++ encI x := by
            rw [List.take_succ_eq_append_getElem (by rw [hn.out]; exact hlt), encC_snoc]
            rw [(List.getElem?_eq_some_iff.1 hx).2]
          obtain ⟨op, arg⟩ := x
          simp only at x2 x3 c0 c1 hck
          obtain ⟨o0, o1⟩ := chk_ok hck
          have hls := encC_len (C.take j) (fun z hz => (hC.out z (List.mem_of_mem_take hz)).2)
          have hlt2 : (C.take j).length ≤ j := List.length_take_le _ _
          have hlD : (H ++ encC (C.take j)).length ≤ 20000 := by rw [List.length_append]; omega
          clear hls hlt2 hck
          obtain ⟨D2, hD2⟩ : ∃ D, H ++ encC (C.take j) = D := ⟨_, rfl⟩
          rw [hD2] at hO hlD
          replace hD2 := hidden hD2
          replace hdr := hidden hdr
          have d0 := X.cell c0
          have d1 := X.cell c1
          clear c0 c1 hx hxm
          have hsz := X.size
          have hne := hidden (own_ne_blk hO HBr (by decide))
          have hnew : ((wr.alloc (.cells #[.int .i64 op, .int .u32 arg] 56)).alloc (.cells #[.int .u8 op] 5)).heap[wr.heap.size + 1]? = some (.cells #[.int .u8 op] 5 (0, 0)) := by
            have := heap_alloc_new (wr.alloc (.cells #[.int .i64 op, .int .u32 arg] 56)) (.cells #[.int .u8 op] 5)
            rw [World.size_alloc] at this
            exact this
          replace hnew := hidden hnew
          have B9 : Blk ((wr.alloc (.cells #[.int .i64 op, .int .u32 arg] 56)).alloc (.cells #[.int .u8 op] 5)) wr.heap.size 56 [.int .i64 op, .int .u32 arg] := (Blk.new wr [.int .i64 op, .int .u32 arg] 56).alloc _
          have hne9 : Hid (u5.ownBlock ≠ some wr.heap.size) := fun e => by have := (own_lt hO e).2; omega
          have HB9 := (HBr.alloc (.cells #[.int .i64 op, .int .u32 arg] 56)).alloc (.cells #[.int .u8 op] 5)
          have hrow : Hid (∀ k, u5.ownBlock = some k → w.heap.size ≤ k) := fun k hk => (own_lt hO hk).1
          obtain ⟨TT, hTT⟩ : ∃ T, opAt op = T := ⟨_, rfl⟩
          have hk2 := hkn.out op
          have hio : isOp op = true := decide_eq_true ⟨o0, o1⟩
          simp only [hTT, hio] at hk2
          have hei : encI (op, arg) = op :: (if TT.2.2.2.2 then wenc arg else []) := by
            unfold encI
            simp only [hTT]
            rw [Int.emod_eq_of_lt o0 (by omega)]
          obtain ⟨t0, t1, t2, t3, t4⟩ := TT
          simp only at hk2 hei
          replace hk2 := hidden hk2
          replace hei := hidden hei
          clear hio hTT
          go_wp2_with (at_builtin; refine wpList_append_own _ rfl _ _ 36 rfl w.heap.size 5 i0 (.int .u8 0) 1 1 Tryz.underlying36 hi hz0 hz1 hz2 rfl (by decide) u5 D2.length (bs D2) rfl (World.ownsRow.alloc (World.ownsRow.alloc hO _) _) ⟨wr.heap.size + 1, 0, none⟩ 1 1 [.int .u8 op] rfl rfl (World.news_of_block (cs := #[.int .u8 op]) (t := 5) (fr := (0, 0)) hnew.out) (by simp [Value.oneCell']) (by unfold maxLen; omega) (by omega) (by simp; omega) ?_; intro v7 w7 hown7 hgrow7 hnil7; have B7 := B9.grown hgrow7 hne9.out; have HB7 := HB9.grown hgrow7 hne.out; have z0 := B7.cell 0 _ rfl; have z1 := B7.cell 1 _ rfl)
          have X7 : Ext w w7 := (((Chg.of_ext [] X).alloc _).alloc _ |>.grown hgrow7 (fun k hk => Or.inr (hrow.out k hk))).ext
          have O7 : Own8 w7 w.heap.size v7 (D2 ++ [op]) := by
            have e : bs (D2 ++ [op]) = bs D2 ++ [.int .u8 op] := by simp [bs]
            unfold Own8
            rw [e, List.length_append]
            exact hown7
          clear hgrow7 hnil7 hown7 B9 hne9 HB9 hrow hnew d0 d1 hne hO HBr X
          refine (hk2.out _).mono ?_
          rintro e w8 ⟨rfl, g8⟩
          have O8 : Own8 w8 w.heap.size v7 (D2 ++ [op]) := own_ext O7 g8
          have HB8 := HB7.ext g8
          have X8 := X7.trans g8
          have z2 := g8.cell z0
          have z3 := g8.cell z1
          clear O7 HB7 X7 B7 z0 z1
          cases t4 with
          | false =>
            have hfin : Hid (D2 ++ [op] = H ++ encC (C.take (j + 1))) := by show _ = _; rw [hdr.out, hei.out, ← List.append_assoc, hD2.out]; rfl
            go_wp2_with fail
            go_roundw
            case rel => exact ⟨j + 1, by omega, by go_num, by rw [← hfin.out]; exact World.ownsRow.alloc O8 _, HB8.alloc _, X8.alloc _⟩
            case measure => simp [intOf]; omega
          | true =>
            have hfin : Hid (D2 ++ [op] ++ wenc arg = H ++ encC (C.take (j + 1))) := by show _ = _; rw [hdr.out, hei.out, ← List.append_assoc, hD2.out]; simp
            have z4 : ∀ o, (w8.alloc o).cell? ⟨wr.heap.size, 1, none⟩ = some (.int .u32 arg) := fun o => ((Ext.refl w8).alloc o).cell z3
            have a4 : arg ≤ 9007199254740991 := by omega
            have hwa : Hid (wnum arg = arg) := wnum_id x2 a4
            have hlD3 : (D2 ++ [op]).length ≤ 900000 := by simp; omega
            go_wp2_with fail
            (with_reducible refine (hpi.out v7 (D2 ++ [op]) arg hlD3 _ (rd8_alloc (Own8.rd O8) _)).mono ?_)
            rw [hwa.out, hfin.out]
            rintro e w9 ⟨v9, rfl, hO9, g9⟩
            have hs8 := X8.size
            go_wp2_with fail
            go_roundw
            case rel => exact ⟨j + 1, by omega, by go_num, own_mono hO9 (by simp; omega), (HB8.alloc _).ext g9, (X8.alloc _).trans g9⟩
            case measure => simp [intOf]; omega
        · obtain rfl : j = n := by omega
          have hlC : C.take j = C := List.take_of_length_le (by rw [hn.out]; exact Nat.le_refl _)
          rw [hlC] at hO
          clear hlC
          have hp : H ++ encC C = progB A L C := by rw [← hH.out, ← hD.out]; unfold progB; rw [hm.out, hn.out]
          rw [hp] at hO
          clear hp
          go_wp2_with fail
          go_ret2
          show EncPost w (encF A L C) _ _
          rw [hE.out]
          exact ⟨_, rfl, hO, X⟩
theorem iencode_any (va vc : Value) (A : List (Bool × Int)) (L : Int) (C : List (Int × Int)) (hA : OkA A) (hC : OkI C) (hL0 : -9223372036854775808 ≤ L) (hL1 : L ≤ 9223372036854775807) (w : World) (ra : Arr w va A) (rc : Cod w vc C) :
    Calls Tryz.prog 11 #[.agg #[va, .int .i64 L, vc]] w (EncPost w (encF A L C)) := by
  by_cases hz : formE A L C = 0
  · exact iencode_good va vc A L C hA hC hL0 hL1 hz w ra rc
  · exact iencode_bad va vc A L C hA hC hL0 hL1 hz w ra rc
end Go.Proofs.YthjnchjfmbblfaaGreatDoor
