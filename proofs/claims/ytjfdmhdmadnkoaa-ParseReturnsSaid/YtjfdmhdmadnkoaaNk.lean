/- Layer 36: Certify, plainly, and of the reference. -/
import Derived.Test.YtjfdmhdmadnkoaaNi
import Derived.Test.YtjfdmhdmadnkoaaLf
import Derived.WalkMore
namespace Go.Proofs.Ytjfdmhdmadnkoaa
open Go.RowKit
set_option linter.unusedVariables false
attribute [local go_sem ↓] Go.wp_at_zero Go.wp_at_succ

/-- Some number is greater than the cheapest choice allows. -/
def lowP (D P : List Int) : Bool := (List.range D.length).any (fun a => decide ((beF D P a).1 < P.getD a 0))
def cerF (D : List Int) (l : List (Int × Int × Int)) (P : List Int) : Int :=
  if 65536 < D.length then 5 else if chkF l ≠ 0 then chkF l else if exF [] l ≠ D then 23 else if P.length ≠ D.length + 1 then 6 else if badP P = true then 2 else
  if P.getD D.length 0 ≠ 0 then 3 else if lowP D P = true then 18 else if sumP l ≠ P.getD 0 0 then 23 else 0
/-- Up to a place no number is too great. -/
def okTo (D P : List Int) (k : Nat) : Prop := ∀ a, a < k → P.getD a 0 ≤ (beF D P a).1
theorem okTo_all {D P : List Int} (h : okTo D P D.length) : lowP D P = false := by
  unfold lowP
  rw [List.any_eq_false]
  intro a ha
  have := h a (List.mem_range.1 ha)
  rw [decide_eq_true_iff]
  omega
theorem low_at {D P : List Int} {k : Nat} (hk : k < D.length) (h : (beF D P k).1 < P.getD k 0) : lowP D P = true := by
  unfold lowP
  rw [List.any_eq_true]
  exact ⟨k, List.mem_range.2 hk, by rw [decide_eq_true_iff]; exact h⟩
theorem cpy_bytes (d k : Nat) (out : List Int) (h : Bytes out) : Bytes (cpy d k out) := by
  induction k generalizing out with
  | zero => exact h
  | succ k ih =>
    rw [cpy]
    refine ih _ (fun x hx => ?_)
    rcases List.mem_append.1 hx with hx | hx
    · exact h x hx
    · rw [List.mem_singleton] at hx
      subst hx
      exact getD_bd8 h _
theorem exF_bytes0 (l : List (Int × Int × Int)) (out : List Int) (h : Bytes out) (hok : OkTs l) : Bytes (exF out l) := by
  induction l generalizing out with
  | nil => exact h
  | cons t l ih =>
    rw [exF]
    refine ih _ ?_ (fun x hx => hok x (List.mem_cons_of_mem _ hx))
    have ht := hok t (by simp)
    unfold ex1
    split
    · intro x hx
      rcases List.mem_append.1 hx with hx | hx
      · exact h x hx
      · rw [List.mem_singleton] at hx
        subst hx
        exact ht.2.2
    · exact cpy_bytes _ _ _ h
theorem exF_bytes {l : List (Int × Int × Int)} (hok : OkTs l) : Bytes (exF [] l) := exF_bytes0 l [] (fun x hx => by cases hx) hok
theorem okTo_succ {D P : List Int} {k : Nat} (h : okTo D P k) (hk : P.getD k 0 ≤ (beF D P k).1) : okTo D P (k + 1) := fun a ha => by
  by_cases e : a = k
  · rw [e]; exact hk
  · exact h a (by omega)
theorem RdI.ext {w w' : World} {v : Value} {l : List Int} (h : RdI w v l) (k : Ext w w') : RdI w' v l := Rd.ext h k

set_option maxRecDepth 100000 in
set_option maxHeartbeats 8000000 in
theorem rcert_any (v vl vp : Value) (D P : List Int) (l : List (Int × Int × Int)) (hb : Bytes D) (hok : OkTs l) (hD : D.length ≤ 9223372036854775807) (hPl : P.length ≤ 1000000) (w : World) (h : Rd8 w v D) (ht : Toks w vl l) (hp : RdI w vp P) :
    Calls Try.prog 22 #[v, vl, vp] w fun x w' => x = .returned (.int .i64 (cerF D l P)) ∧ Ext w w' := by
  have hE := rexpand_any vl l hok w ht
  have hCo := fun W (hW : Toks W vl l) => rcost_any vl l hok W hW
  have hbe := fun (k : Nat) (hk : k < D.length) (h65 : D.length ≤ 65536) (h1 : P.length = D.length + 1) (hP : ∀ x ∈ P, 0 ≤ x ∧ x ≤ 1000000000) W (hW : Rd8 W v D) (hp : RdI W vp P) => rbest_any v vp D P k hb hk h65 h1 hP W hW hp
  have hbd : Hid (Bytes D) := hidden hb
  obtain ⟨ad, cap, rfl, q1, q2, q3⟩ := Rd.shape h
  obtain ⟨al, cl, rfl, l1, l2, l3⟩ := Rd.shape ht
  obtain ⟨ap, cp, rfl, p1, p2, p3⟩ := Rd.shape hp
  have hcv := str_of h
  obtain ⟨m, hm⟩ : ∃ m, D.length = m := ⟨_, rfl⟩
  obtain ⟨r, hr⟩ : ∃ r, P.length = r := ⟨_, rfl⟩
  obtain ⟨n, hn⟩ : ∃ n, l.length = n := ⟨_, rfl⟩
  have hR : Hid (Rd8 w (.slice ad m cap) D) := hidden (by rw [← hm]; exact h)
  have hQ : Hid (RdI w (.slice ap r cp) P) := hidden (by rw [← hr]; exact hp)
  have hT : Hid (Toks w (.slice al n cl) l) := hidden (by rw [← hn]; exact ht)
  rw [hm] at q1 hD hbe ⊢
  rw [hr] at p1 hPl hbe ⊢
  rw [hn] at l1 hE hCo ⊢
  obtain ⟨C, hC⟩ : ∃ C, cerF D l P = C := ⟨_, rfl⟩
  rw [hC]
  unfold cerF at hC
  replace hCo := hidden hCo
  replace hbe := hidden hbe
  replace hE := hidden hE
  clear h ht hp hcv hb
  by_cases k1 : 65536 < m
  · rw [hm, if_pos k1] at hC
    subst hC
    clear hm hr hn
    go_enter Try.func22, Try.ntmps22
    go_wp2_with fail
    go_ret
    exact ⟨rfl, Ext.refl _⟩
  rw [hm, if_neg k1] at hC
  by_cases k2 : chkF l = 0
  case neg =>
    rw [if_pos k2] at hC
    have hee : expF l = (C, []) := by unfold expF; rw [if_pos k2, hC]
    have hC0 : (C != 0) = true := by rw [← hC]; simp [k2]
    have hE1 := hE.out
    rw [hee] at hE1
    replace hE1 := hidden hE1
    clear hm hr hn hC hee k2
    go_enter Try.func22, Try.ntmps22
    go_wp2_with fail
    refine hE1.out.mono ?_
    rintro e1 w1 he1
    obtain ⟨v', rfl, hO, g1⟩ := he1
    obtain ⟨a1, c1, rfl, -, -, -⟩ := own_shape hO
    clear hO
    go_wp2_with fail
    go_ret
    exact ⟨rfl, g1⟩
  rw [if_neg (by simp [k2])] at hC
  have hee : expF l = (0, exF [] l) := by unfold expF; rw [if_neg (by simp [k2])]
  have hE1 := hE.out
  rw [hee] at hE1
  have hco1 : cosE l = (0, sumP l) := by unfold cosE; rw [if_neg (by simp [k2])]
  have hex : Bytes (exF [] l) := exF_bytes hok
  obtain ⟨X, hX⟩ : ∃ X, exF [] l = X := ⟨_, rfl⟩
  rw [hX] at hC hE1 hex
  have hse := str_eq hex hbd.out
  obtain ⟨sX, hsX⟩ : ∃ s, strOfNums X = s := ⟨_, rfl⟩
  obtain ⟨sD, hsD⟩ : ∃ s, strOfNums D = s := ⟨_, rfl⟩
  rw [hsX, hsD] at hse
  replace hE1 := hidden hE1
  replace hsX := hidden hsX
  replace hsD := hidden hsD
  replace hm := hidden hm
  replace hr := hidden hr
  replace hn := hidden hn
  clear hE hee hX
  by_cases k3 : X = D
  case neg =>
    rw [if_pos k3] at hC
    have hs1 : (sX.toList == sD.toList) = false := by rw [hse]; simp [k3]
    have hs2 : (sX.toList != sD.toList) = true := by simp [bne, hs1]
    subst hC
    clear hse k3
    go_enter Try.func22, Try.ntmps22
    go_wp2_with fail
    refine hE1.out.mono ?_
    rintro e1 w1 he1
    obtain ⟨v', rfl, hO, g1⟩ := he1
    have cv1 := str_of (Rd.of_own hO : Rd8 w1 v' X)
    have cv2 := str_of (Rd.ext hR.out g1)
    rw [hsX.out] at cv1
    rw [hsD.out] at cv2
    obtain ⟨a1, c1, rfl, -, -, -⟩ := own_shape hO
    clear hO
    go_wp2_with fail
    go_ret
    exact ⟨rfl, g1⟩
  rw [if_neg (by simp [k3])] at hC
  have hs1 : (sX.toList == sD.toList) = true := by rw [hse]; simp [k3]
  have hs2 : (sX.toList != sD.toList) = false := by simp [bne, hs1]
  subst k3
  have hss : sX = sD := by rw [← hsX.out, ← hsD.out]
  clear hse
  by_cases k4 : r = m + 1
  case neg =>
    rw [hr.out, if_pos k4] at hC
    have k5 : ((r : Int) == (m : Int) + 1) = false := by simp; omega
    have k6 : ((r : Int) != (m : Int) + 1) = true := by simp; omega
    subst hC
    replace hss := hidden hss
    clear k4
    go_enter Try.func22, Try.ntmps22
    go_wp2_with fail
    refine hE1.out.mono ?_
    rintro e1 w1 he1
    obtain ⟨v', rfl, hO, g1⟩ := he1
    have cv1 := str_of (Rd.of_own hO : Rd8 w1 v' X)
    have cv2 := str_of (Rd.ext hR.out g1)
    rw [hsX.out] at cv1
    rw [hsD.out] at cv2
    obtain ⟨a1, c1, rfl, -, -, -⟩ := own_shape hO
    clear hO
    go_wp2_with fail
    go_ret
    exact ⟨rfl, g1⟩
  subst k4
  rw [hr.out, if_neg (by simp)] at hC
  have k5 : ((m : Int) + 1 != (m : Int) + 1) = false := by simp
  obtain ⟨pb, po, rfl, pbl⟩ := RdI.some hQ.out (by rw [hr.out]; omega)
  have hPat : Hid (∀ k, k < m + 1 → ∀ W, Ext w W → W.cell? ⟨pb, po + k, none⟩ = some (.int .i64 (P.getD k 0))) := hidden (fun k hk W hW => RdI.at (RdI.ext hQ.out hW) k (by rw [hr.out]; exact hk))
  replace hC := hidden hC
  replace hss := hidden hss
  go_enter Try.func22, Try.ntmps22
  go_wp2_with fail
  refine hE1.out.mono ?_
  rintro e1 w1 he1
  obtain ⟨v', rfl, hO, g1⟩ := he1
  have cv1 := str_of (Rd.of_own hO : Rd8 w1 v' X)
  have cv2 := str_of (Rd.ext hR.out g1)
  rw [hsX.out] at cv1
  rw [hsD.out] at cv2
  obtain ⟨a1, c1, rfl, -, -, -⟩ := own_shape hO
  clear hO
  go_wp2_with fail
  go_loopw [9] (fun i wr => ∃ k : Nat, i = .int .i64 (k : Int) ∧ k ≤ m + 1 ∧ Hid (badP (P.take k) = false) ∧ Ext w wr) (fun i _ => m + 1 - (intOf i).toNat)
  case atStart => exact ⟨0, rfl, by omega, by show _ = _; rfl, g1⟩
  case round =>
    clear g1 cv1 cv2
    obtain ⟨k, rfl, hk, hq, hX⟩ := hrel
    obtain ⟨W, hWW⟩ : ∃ Z, Z = wr := ⟨_, rfl⟩
    subst hWW
    by_cases hlt : k < m + 1
    · have hlt' : (k : Int) < (m : Int) + 1 := by omega
      have hx := hPat.out k hlt W hX
      obtain ⟨x, hxe⟩ : ∃ x, P.getD k 0 = x := ⟨_, rfl⟩
      rw [hxe] at hx
      have hPk : P[k]? = some x := by
        have hk2 : k < P.length := by rw [hr.out]; exact hlt
        rw [List.getElem?_eq_getElem hk2, ← hxe]
        simp [List.getD, hk2]
      have hst : badP (P.take (k + 1)) = (badP (P.take k) || decide (x < 0 ∨ 589824 < x)) := by
        rw [take_at hPk]; unfold badP; simp
      have hmem : x ∈ P := List.mem_of_getElem? hPk
      rw [hq.out, Bool.false_or] at hst
      have hany : (x < 0 ∨ 589824 < x) → C = 2 := fun e => by
        have hbp : badP P = true := by unfold badP; rw [List.any_eq_true]; exact ⟨x, hmem, by rw [decide_eq_true_iff]; exact e⟩
        have := hC.out
        rw [if_pos hbp] at this
        exact this.symm
      replace hany := hidden hany
      clear hxe hPk hmem
      by_cases x1 : x < 0
      · have hC2 := hidden (hany.out (Or.inl x1))
        clear hst
        go_wp2_with fail
        go_ret
        exact ⟨ret_int hC2.out.symm, hX⟩
      · by_cases x2 : 589824 < x
        · have hC2 := hidden (hany.out (Or.inr x2))
          clear hst
          go_wp2_with fail
          go_ret
          exact ⟨ret_int hC2.out.symm, hX⟩
        · replace hst : Hid (badP (P.take (k + 1)) = false) := hidden (by rw [hst]; simp; omega)
          go_wp2_with fail
          go_round
          case rel => exact ⟨k + 1, by go_num, by omega, hst, hX⟩
          case measure => simp [intOf]; omega
    · have hkm : k = m + 1 := by omega
      have hlt' : ¬ (k : Int) < (m : Int) + 1 := by omega
      have hbp : badP P = false := by have := hq.out; rw [List.take_of_length_le (by rw [hr.out]; omega)] at this; exact this
      have hPok := badP_no hbp
      have hC3 := hC.out
      rw [if_neg (by simp [hbp])] at hC3
      have hPm := hPat.out m (by omega) W hX
      obtain ⟨y, hy⟩ : ∃ y, P.getD m 0 = y := ⟨_, rfl⟩
      rw [hy] at hPm hC3
      have v0 : (m : Int) < (m : Int) + 1 := by omega
      replace hPok := hidden hPok
      clear hbp hq hC hkm hy
      by_cases k7 : y = 0
      case neg =>
        rw [if_pos k7] at hC3
        have y1 : (y == 0) = false := by simp [k7]
        have y2 : (y != 0) = true := by simp [k7]
        replace hC3 := hidden hC3
        go_wp2_with fail
        go_ret
        exact ⟨ret_int hC3.out, hX⟩
      subst k7
      rw [if_neg (by simp)] at hC3
      replace hC3 := hidden hC3
      go_wp2_with fail
      clear hPm hlt hlt'
      go_loopw [10] (fun i wr => ∃ k : Nat, i = .int .i64 (k : Int) ∧ k ≤ m ∧ Hid (okTo X P k) ∧ Ext w wr) (fun i _ => m - (intOf i).toNat)
      case atStart => exact ⟨0, rfl, Nat.zero_le _, fun a ha => absurd ha (Nat.not_lt_zero _), hX⟩
      case round =>
        clear hX hk
        obtain ⟨k, rfl, hk, hq, hX⟩ := hrel
        obtain ⟨W, hWW⟩ : ∃ Z, Z = wr := ⟨_, rfl⟩
        subst hWW
        by_cases hlt : k < m
        · have hlt1 : (k : Int) < (m : Int) := by omega
          have hlt2 : (k : Int) < (m : Int) + 1 := by omega
          have hcb := hbe.out k hlt (by omega) (by first | trivial | rfl) (fun x hx => by have := hPok.out x hx; omega) W (Rd.ext hR.out hX) (RdI.ext hQ.out hX)
          have hlow := low_at (D := X) (P := P) (k := k) (by rw [hm.out]; exact hlt)
          have hsu := okTo_succ hq.out
          obtain ⟨⟨c, L, Ds, B⟩, hN⟩ : ∃ N, beF X P k = N := ⟨_, rfl⟩
          obtain ⟨y, hy⟩ : ∃ y, P.getD k 0 = y := ⟨_, rfl⟩
          rw [hN] at hcb hlow hsu
          rw [hy] at hlow hsu
          change Calls Try.prog _ _ _ (fun x w' => x = .returned (.tuple #[.int .i64 c, .agg #[.int .i64 L, .int .i64 Ds, .int .u8 B]]) ∧ Ext W w') at hcb
          simp only at hlow hsu
          replace hcb := hidden hcb
          replace hlow := hidden hlow
          replace hsu := hidden hsu
          replace hy := hidden hy
          clear hN
          by_cases hcy : c < y
          · have hC4 : Hid (C = 18) := hidden (by have := hC3.out; rw [if_pos (hlow.out hcy)] at this; exact this.symm)
            go_wp2_with fail
            refine hcb.out.mono ?_
            rintro e1 w3 ⟨rfl, g3⟩
            have hX3 := hX.trans g3
            have hX4 := hX3.alloc (.cells #[.int .i64 L, .int .i64 Ds, .int .u8 B] 60)
            have cP := hPat.out k (by omega) _ hX4
            rw [hy.out] at cP
            go_wp2_with fail
            go_ret
            exact ⟨ret_int hC4.out.symm, hX4⟩
          · have hsu2 := hsu.out (by omega)
            replace hsu2 := hidden hsu2
            go_wp2_with fail
            refine hcb.out.mono ?_
            rintro e1 w3 ⟨rfl, g3⟩
            have hX3 := hX.trans g3
            have hX4 := hX3.alloc (.cells #[.int .i64 L, .int .i64 Ds, .int .u8 B] 60)
            have cP := hPat.out k (by omega) _ hX4
            rw [hy.out] at cP
            go_wp2_with fail
            go_round
            case rel => exact ⟨k + 1, by go_num, by omega, hsu2, hX4⟩
            case measure => simp [intOf]; omega
        · have hlt1 : ¬ (k : Int) < (m : Int) := by omega
          have hlf : lowP X P = false := okTo_all (by rw [hm.out]; have := hq.out; rw [show k = m by omega] at this; exact this)
          have hC4 := hC3.out
          rw [if_neg (by simp [hlf])] at hC4
          have hc1 := hCo.out W (Rd.ext hT.out hX)
          rw [hco1] at hc1
          have hP0 := hPat.out 0 (by omega)
          obtain ⟨s, hs⟩ : ∃ s, sumP l = s := ⟨_, rfl⟩
          obtain ⟨y, hy⟩ : ∃ y, P.getD 0 0 = y := ⟨_, rfl⟩
          rw [hs, hy] at hC4
          rw [hs] at hc1
          rw [hy] at hP0
          simp only [Nat.add_zero] at hP0
          simp only at hc1
          replace hc1 := hidden hc1
          replace hP0 := hidden hP0
          have hm1 : (0 : Int) < (m : Int) + 1 := by omega
          have hm2 : 0 < m + 1 := by omega
          clear hlf hs hy hco1
          by_cases hsy : s = y
          · have e1 : (s != y) = false := by simp [hsy]
            have e2 : (s == y) = true := by simp [hsy]
            rw [if_neg (by simp [hsy])] at hC4
            replace hC4 := hidden hC4
            clear hsy
            go_wp2_with fail
            refine hc1.out.mono ?_
            rintro e1 w3 ⟨rfl, g3⟩
            have cP := hP0.out w3 (hX.trans g3)
            go_wp2_with fail
            go_ret
            exact ⟨ret_int hC4.out, hX.trans g3⟩
          · have e1 : (s != y) = true := by simp [hsy]
            have e2 : (s == y) = false := by simp [hsy]
            rw [if_pos hsy] at hC4
            replace hC4 := hidden hC4
            clear hsy
            go_wp2_with fail
            refine hc1.out.mono ?_
            rintro e1 w3 ⟨rfl, g3⟩
            have cP := hP0.out w3 (hX.trans g3)
            go_wp2_with fail
            go_ret
            exact ⟨ret_int hC4.out, hX.trans g3⟩
end Go.Proofs.Ytjfdmhdmadnkoaa

/- Layer 36: Certify, of the program. -/
namespace Go.Proofs.Ytjfdmhdmadnkoaa
open Go.RowKit Go.Shelf
set_option linter.unusedVariables false
attribute [local go_sem] Oper.semAt_some
attribute [local go_sem ↓] Go.wp_at_zero Go.wp_at_succ


theorem leaves_many {F : Fence} {n : Nat} {P : Program} {fn : Func} {tmps : Array Value} {R : Ending → World → Prop} {w : World} (hR : ∀ W', Ext w W' → LeavesInM F n P fn tmps R [] .returning W') :
    ∀ (Es : List Nat) (W : World), Es.Nodup → (∀ E ∈ Es, W.heap[E]? = some (.deferred (some [])) ∧ w.heap.size ≤ E) → Ext w W →
      LeavesInM F n P fn tmps R (Es.map fun E => ({ target := .collected E, args := #[] } : Deferred)) .returning W
  | [], W, _, _, hW => hR W hW
  | E :: Es, W, hn, hk, hW => by
    have hE := hk E (by simp)
    refine ⟨by simp, .inl ⟨_, _, rfl, run_takeDeferred hE.1, ?_⟩⟩
    refine leaves_many hR Es _ (List.nodup_cons.1 hn).2 (fun x hx => ?_) (Below.trans hW (belowK_b (n₀ := w.heap.size) (w := w) (Nat.le_refl _) W E _ (.deferred none) hE.2 hE.1 rfl rfl))
    have hx1 := hk x (List.mem_cons_of_mem _ hx)
    refine ⟨?_, hx1.2⟩
    rw [World.putObj_heap_other (fun e => (List.nodup_cons.1 hn).1 (by rw [← e]; exact hx))]
    exact hx1.1

/-- No choice yielded so far is too cheap; one is. -/
def AllGe (X P : List Int) (j : Nat) (x0 : Int) (pre : List (ChT X j)) : Prop := ∀ t ∈ pre, x0 ≤ ctP P j t.1
def SomeLt (X P : List Int) (j : Nat) (x0 : Int) (pre : List (ChT X j)) : Prop := ∃ t ∈ pre, ctP P j t.1 < x0

set_option maxRecDepth 100000 in
set_option maxHeartbeats 8000000 in
theorem pcert_any (v vl vp : Value) (D P : List Int) (l : List (Int × Int × Int)) (hb : Bytes D) (hok : OkTs l) (hD : D.length ≤ 9223372036854775807) (hPl : P.length ≤ 1000000) (w : World) (h : Rd8 w v D) (ht : Toks w vl l) (hp : RdI w vp P) :
    Calls Try.prog 21 #[v, vl, vp] w fun x w' => x = .returned (.int .i64 (cerF D l P)) ∧ Ext w w' := by
  have hE := fun W (hW : Toks W vl l) => lexpand_any vl l hok W hW
  have hCo := fun W (hW : Toks W vl l) => pcost_any vl l hok W hW
  have hbd : Hid (Bytes D) := hidden hb
  obtain ⟨ad, cap, rfl, q1, q2, q3⟩ := Rd.shape h
  obtain ⟨al, cl, rfl, l1, l2, l3⟩ := Rd.shape ht
  obtain ⟨ap, cp, rfl, p1, p2, p3⟩ := Rd.shape hp
  obtain ⟨m, hm⟩ : ∃ m, D.length = m := ⟨_, rfl⟩
  obtain ⟨r, hr⟩ : ∃ r, P.length = r := ⟨_, rfl⟩
  obtain ⟨n, hn⟩ : ∃ n, l.length = n := ⟨_, rfl⟩
  have hR : Hid (Rd8 w (.slice ad m cap) D) := hidden (by rw [← hm]; exact h)
  have hQ : Hid (RdI w (.slice ap r cp) P) := hidden (by rw [← hr]; exact hp)
  have hT : Hid (Toks w (.slice al n cl) l) := hidden (by rw [← hn]; exact ht)
  rw [hm] at q1 hD ⊢
  rw [hr] at p1 hPl ⊢
  rw [hn] at l1 hE hCo ⊢
  obtain ⟨C, hC⟩ : ∃ C, cerF D l P = C := ⟨_, rfl⟩
  rw [hC]
  unfold cerF at hC
  replace hCo := hidden hCo
  have x0 := (Ext.refl w).alloc (.cells #[.slice ap r cp] 32)
  have b0 := Blk.new w [.slice ap r cp] 32
  have t0 : Toks (w.alloc (.cells #[.slice ap r cp] 32)) (.slice al n cl) l := Rd.ext hT.out x0
  replace b0 := hidden b0
  replace t0 := hidden t0
  replace x0 := hidden x0
  replace hE := hidden hE
  clear h ht hp hb
  by_cases k1 : 65536 < m
  · rw [hm, if_pos k1] at hC
    subst hC
    clear hm hr hn
    go_enter Try.func21, Try.ntmps21
    go_wp2_with fail
    go_step3
    go_wp2_with fail
    (try rw [Exit.noGoto_ret])
    go_ret
    exact ⟨rfl, x0.out⟩
  rw [hm, if_neg k1] at hC
  by_cases k2 : chkF l = 0
  case neg =>
    rw [if_pos k2] at hC
    have hee : expF l = (C, []) := by unfold expF; rw [if_pos k2, hC]
    have hC0 : (C != 0) = true := by rw [← hC]; simp [k2]
    have hE1 := hE.out _ t0.out
    rw [hee] at hE1
    replace hE1 := hidden hE1
    clear hm hr hn hC hee k2
    go_enter Try.func21, Try.ntmps21
    go_wp2_with fail
    go_step3
    go_wp2_with fail
    refine hE1.out.mono ?_
    rintro e1 w1 he1
    obtain ⟨v', rfl, hO, g1⟩ := he1
    obtain ⟨a1, c1, rfl, -, -, -⟩ := own_shape hO
    clear hO
    go_wp2_with fail
    (try rw [Exit.noGoto_ret])
    go_ret
    exact ⟨rfl, x0.out.trans g1⟩
  rw [if_neg (by simp [k2])] at hC
  have hee : expF l = (0, exF [] l) := by unfold expF; rw [if_neg (by simp [k2])]
  have hE1 := hE.out _ t0.out
  rw [hee] at hE1
  have hco1 : cosE l = (0, sumP l) := by unfold cosE; rw [if_neg (by simp [k2])]
  have hex : Bytes (exF [] l) := exF_bytes hok
  obtain ⟨X, hX⟩ : ∃ X, exF [] l = X := ⟨_, rfl⟩
  rw [hX] at hC hE1 hex
  replace hE1 := hidden hE1
  replace hm := hidden hm
  replace hr := hidden hr
  replace hn := hidden hn
  clear hE hee hX
  have hEq := fun (v' : Value) W (hV : Rd8 W v' X) (hW : Rd8 W (.slice ad m cap) D) => eq8_any v' (.slice ad m cap) X D W hV hW
  replace hEq := hidden hEq
  by_cases k3 : X = D
  case neg =>
    rw [if_pos k3] at hC
    subst hC
    have hEq1 := hEq.out
    simp only [k3, decide_false] at hEq1
    replace hEq1 := hidden hEq1
    clear k3 hEq
    go_enter Try.func21, Try.ntmps21
    go_wp2_with fail
    go_step3
    go_wp2_with fail
    refine hE1.out.mono ?_
    rintro e1 w1 he1
    obtain ⟨v', rfl, hO, g1⟩ := he1
    have hX1 := x0.out.trans g1
    have hc1 := hEq1.out v' w1 (Rd.of_own hO) (Rd.ext hR.out hX1)
    obtain ⟨a1, c1, rfl, -, -, -⟩ := own_shape hO
    replace hc1 := hidden hc1
    clear hO
    go_wp2_with fail
    refine hc1.out.mono ?_
    rintro e2 w2 ⟨rfl, g2⟩
    go_wp2_with fail
    (try rw [Exit.noGoto_ret])
    go_ret
    exact ⟨rfl, hX1.trans g2⟩
  rw [if_neg (by simp [k3])] at hC
  subst k3
  have hEq1 := hEq.out
  simp only [decide_true] at hEq1
  replace hEq1 := hidden hEq1
  clear hEq
  by_cases k4 : r = m + 1
  case neg =>
    rw [hr.out, if_pos k4] at hC
    have k5 : ((r : Int) == (m : Int) + 1) = false := by simp; omega
    have k6 : ((r : Int) != (m : Int) + 1) = true := by simp; omega
    have v0 : IntKind.i64.wrap ((m : Int) + 1) = (m : Int) + 1 := IntWalk.i64_in _ (by omega)
    subst hC
    clear k4
    go_enter Try.func21, Try.ntmps21
    go_wp2_with fail
    go_step3
    go_wp2_with fail
    refine hE1.out.mono ?_
    rintro e1 w1 he1
    obtain ⟨v', rfl, hO, g1⟩ := he1
    have hX1 := x0.out.trans g1
    have hc1 := hEq1.out v' w1 (Rd.of_own hO) (Rd.ext hR.out hX1)
    obtain ⟨a1, c1, rfl, -, -, -⟩ := own_shape hO
    have b1 := b0.out.ext g1
    replace hc1 := hidden hc1
    clear hO
    go_wp2_with fail
    refine hc1.out.mono ?_
    rintro e2 w2 ⟨rfl, g2⟩
    have y0 := (b1.ext g2).cell 0 _ rfl
    go_wp2_with fail
    (try rw [Exit.noGoto_ret])
    go_ret
    exact ⟨rfl, hX1.trans g2⟩
  subst k4
  rw [hr.out, if_neg (by simp)] at hC
  have k5 : ((m : Int) + 1 != (m : Int) + 1) = false := by simp
  obtain ⟨pb, po, rfl, pbl⟩ := RdI.some hQ.out (by rw [hr.out]; omega)
  have hPat : Hid (∀ k, k < m + 1 → ∀ W, Ext w W → W.cell? ⟨pb, po + k, none⟩ = some (.int .i64 (P.getD k 0))) := hidden (fun k hk W hW => RdI.at (RdI.ext hQ.out hW) k (by rw [hr.out]; exact hk))
  have hCt := fun W (hW : Ext w W) => contains_any (.slice (some ⟨pb, po, none⟩) (m + 1) cp) P (by rw [hr.out]; omega) W (RdI.ext hQ.out hW)
  have v0 : IntKind.i64.wrap ((m : Int) + 1) = (m : Int) + 1 := IntWalk.i64_in _ (by omega)
  have v1 : (m : Int) < (m : Int) + 1 := by omega
  replace hCt := hidden hCt
  by_cases k6 : badP P = true
  case pos =>
    rw [if_pos k6] at hC
    subst hC
    have hCt1 := hCt.out
    simp only [k6] at hCt1
    replace hCt1 := hidden hCt1
    clear k6 hCt
    go_enter Try.func21, Try.ntmps21
    go_wp2_with fail
    go_step3
    go_wp2_with fail
    refine hE1.out.mono ?_
    rintro e1 w1 he1
    obtain ⟨v', rfl, hO, g1⟩ := he1
    have hX1 := x0.out.trans g1
    have hc1 := hEq1.out v' w1 (Rd.of_own hO) (Rd.ext hR.out hX1)
    obtain ⟨a1, c1, rfl, -, -, -⟩ := own_shape hO
    have b1 := b0.out.ext g1
    replace hc1 := hidden hc1
    clear hO
    go_wp2_with fail
    refine hc1.out.mono ?_
    rintro e2 w2 ⟨rfl, g2⟩
    have y0 := (b1.ext g2).cell 0 _ rfl
    have hX2 := hX1.trans g2
    go_wp2_with fail
    refine (hCt1.out _ hX2).mono ?_
    rintro e3 w3 ⟨rfl, g3⟩
    go_wp2_with fail
    (try rw [Exit.noGoto_ret])
    go_ret
    exact ⟨rfl, hX2.trans g3⟩
  have k7 : badP P = false := by simpa using k6
  have hPok := badP_no k7
  rw [if_neg k6] at hC
  have hCt1 := hCt.out
  simp only [k7] at hCt1
  replace hCt1 := hidden hCt1
  replace hPok := hidden hPok
  clear k6 k7 hCt
  have hPm := hPat.out m (by omega)
  obtain ⟨y, hy⟩ : ∃ y, P.getD m 0 = y := ⟨_, rfl⟩
  rw [hy] at hC
  rw [hy] at hPm
  replace hPm := hidden hPm
  clear hy
  by_cases k8 : y = 0
  case neg =>
    rw [if_pos k8] at hC
    subst hC
    have y1 : (y == 0) = false := by simp [k8]
    have y2 : (y != 0) = true := by simp [k8]
    clear k8
    go_enter Try.func21, Try.ntmps21
    go_wp2_with fail
    go_step3
    go_wp2_with fail
    refine hE1.out.mono ?_
    rintro e1 w1 he1
    obtain ⟨v', rfl, hO, g1⟩ := he1
    have hX1 := x0.out.trans g1
    have hc1 := hEq1.out v' w1 (Rd.of_own hO) (Rd.ext hR.out hX1)
    obtain ⟨a1, c1, rfl, -, -, -⟩ := own_shape hO
    have b1 := b0.out.ext g1
    replace hc1 := hidden hc1
    clear hO
    go_wp2_with fail
    refine hc1.out.mono ?_
    rintro e2 w2 ⟨rfl, g2⟩
    have b2 := b1.ext g2
    have y0 := b2.cell 0 _ rfl
    have hX2 := hX1.trans g2
    go_wp2_with fail
    refine (hCt1.out _ hX2).mono ?_
    rintro e3 w3 ⟨rfl, g3⟩
    have y3 := (b2.ext g3).cell 0 _ rfl
    have y4 := hPm.out w3 (hX2.trans g3)
    go_wp2_with fail
    (try rw [Exit.noGoto_ret])
    go_ret
    exact ⟨rfl, hX2.trans g3⟩
  subst k8
  rw [if_neg (by simp)] at hC
  replace hC := hidden hC
  have hb0 := b0.out.cell 0 _ rfl
  refine (callsIn_wide (n := 8)).1 ?_
  refine callsIn_of_wp_marks Try.func21 rfl trivial ?_ rfl
  simp only [Try.ntmps21, List.size_toArray, List.length_cons, List.length_nil, Nat.reduceAdd, Nat.reduceSub, Array.replicate_succ, Array.replicate_zero, List.push_toArray, List.append_toArray, List.nil_append, List.cons_append]
  gi_wp2
  refine wpIn_wide.2 (wp_scope_straight ((wpIn_wide (n := 8)).1 ?_))
  gi_wp2_with (refine ⟨trivial, ?_⟩; gi_at_call 24; refine (callsIn_wide.2 hE1.out).mono ?_; rintro e1 w1 ⟨v', rfl, hO, g1⟩; have hX1 := x0.out.trans g1; have hc1 := hidden (hEq1.out v' w1 (Rd.of_own hO) (Rd.ext hR.out hX1)); obtain ⟨a1, c1, rfl, -, -, -⟩ := own_shape hO; have b1 := b0.out.ext g1; clear hO)
  gi_wp2_with (refine ⟨trivial, ?_⟩; gi_at_call 40; refine (callsIn_wide.2 hc1.out).mono ?_; rintro e2 w2 ⟨rfl, g2⟩; have hX2 := hX1.trans g2; have b2 := b1.ext g2; have y0 := b2.cell 0 _ rfl)
  gi_wp2_with (refine ⟨trivial, ?_⟩; gi_at_call 41; refine (callsIn_wide.2 (hCt1.out _ hX2)).mono ?_; rintro e3 w3 ⟨rfl, g3⟩; have hX3 := hX2.trans g3; have b3 := b2.ext g3; have y3 := b3.cell 0 _ rfl; have y4 := hPm.out w3 hX3)
  refine wpIn_label ?_
  gi_wp2
  replace b3 := hidden b3
  replace y4 := hidden y4
  clear y0 y3 hb0 b0 b1 b2
  have hps := fun (L Ds B : Int) W => psize_any L Ds B W
  have hpr0 := fun (L Ds B : Int) W => lprice_any L Ds B W
  replace hps := hidden hps
  replace hpr0 := hidden hpr0
  have hX3' := hidden hX3
  have hlX : X.length ≤ 65536 := by rw [hm.out]; omega
  refine wpIn_loop (fun a wr => ∃ (j : Nat) (pr : Bool) (Es : List Nat) (u10 u11 u46 u47 u48 u49 u50 u51 u52 u53 u54 u55 u56 u57 u58 u59 u60 u61 u62 u63 u64 u65 u66 u67 u68 u69 u70 u71 u72 : Value), a = { tmps := (.slice ad m cap :: .slice al n cl :: .slice (some ⟨pb, po, none⟩) (m + 1) cp :: undef :: undef :: .pointer (some ⟨w.heap.size, 0, none⟩) :: .int .i64 0 :: .slice a1 X.length c1 :: .int .i64 0 :: .bool pr :: u10 :: u11 :: undef :: undef :: .slice ad m cap :: .int .i64 (m : Int) :: .bool (decide (65536 < (m : Int))) :: .tuple #[.slice a1 X.length c1, .int .i64 0] :: .slice al n cl :: .tuple #[.slice a1 X.length c1, .int .i64 0] :: .slice a1 X.length c1 :: .int .i64 0 :: .int .i64 0 :: .bool false :: undef :: .slice a1 X.length c1 :: .slice ad m cap :: .bool true :: .bool false :: .slice (some ⟨pb, po, none⟩) (m + 1) cp :: .int .i64 ((m : Int) + 1) :: .slice ad m cap :: .int .i64 (m : Int) :: .int .i64 ((m : Int) + 1) :: .bool false :: .slice (some ⟨pb, po, none⟩) (m + 1) cp :: .bool false :: .slice (some ⟨pb, po, none⟩) (m + 1) cp :: .slice ad m cap :: .int .i64 (m : Int) :: .pointer (some ⟨pb, po + m, none⟩) :: .int .i64 0 :: .bool false :: .slice ad m cap :: .int .i64 (m : Int) :: .int .i64 (j : Int) :: u46 :: u47 :: u48 :: u49 :: u50 :: u51 :: u52 :: u53 :: u54 :: u55 :: u56 :: u57 :: u58 :: u59 :: u60 :: u61 :: u62 :: u63 :: u64 :: u65 :: u66 :: u67 :: u68 :: u69 :: u70 :: u71 :: u72 :: undef :: undef :: undef :: undef :: undef :: undef :: undef :: undef :: undef :: undef :: undef :: undef :: undef :: undef :: undef :: undef :: undef :: [] : List Value).toArray, defers := Es.map (fun E => ({ target := .collected E, args := #[] } : Deferred)) } ∧ j ≤ m ∧ Hid (pr = decide (0 < m ∧ j = m)) ∧ Hid (okTo X P j) ∧ Hid Es.Nodup ∧ Hid (∀ E ∈ Es, wr.heap[E]? = some (.deferred (some [])) ∧ w.heap.size ≤ E) ∧ Ext w3 wr) (fun a _ => m - (intOf (a.tmps.getD 45 undef)).toNat) ?start ?round
  case start =>
    exact ⟨0, false, [], undef, undef, undef, undef, undef, undef, undef, undef, undef, undef, undef, undef, undef, undef, undef, undef, undef, undef, undef, undef, undef, undef, undef, undef, undef, undef, undef, undef, undef, rfl, Nat.zero_le _, hidden (by by_cases e : m = 0 <;> simp [e]; omega), hidden (fun a ha => absurd ha (Nat.not_lt_zero _)), hidden List.nodup_nil, hidden (fun E hE => by cases hE), Ext.refl _⟩
  case round =>
    rintro a W ⟨j, pr, Es, u10, u11, u46, u47, u48, u49, u50, u51, u52, u53, u54, u55, u56, u57, u58, u59, u60, u61, u62, u63, u64, u65, u66, u67, u68, u69, u70, u71, u72, rfl, hj, hpr, hq, hnd, hEs, hX⟩
    have b4 := b3.out.ext hX
    have hXW : Ext w W := hX3'.out.trans hX
    by_cases hlt : j < m
    · have hltI : (j : Int) < (m : Int) := by omega
      replace b4 := hidden b4
      replace hXW := hidden hXW
      gi_wp2_with (refine ⟨trivial, ?_⟩; gi_at_call 30; refine (callsIn_wide.2 (choices_in _ _ _ _ _)).mono ?_; rintro e w2 ⟨rfl, rfl⟩)
      have e0 := ((Blk.new W [.int .i64 (j : Int)] 3).alloc (.cells #[.slice ad m cap] 22)).alloc (.cells #[.int .i64 (j : Int)] 3)
      have e1 := (Blk.newAt (W.alloc (.cells #[.int .i64 (j : Int)] 3)) [.slice ad m cap] 22 (W.heap.size + 1) (by simp)).alloc (.cells #[.int .i64 (j : Int)] 3)
      have e2 := Blk.newAt ((W.alloc (.cells #[.int .i64 (j : Int)] 3)).alloc (.cells #[.slice ad m cap] 22)) [.int .i64 (j : Int)] 3 (W.heap.size + 1 + 1) (by simp)
      have hEW : Ext W (((W.alloc (.cells #[.int .i64 (j : Int)] 3)).alloc (.cells #[.slice ad m cap] 22)).alloc (.cells #[.int .i64 (j : Int)] 3)) := (((Ext.refl W).alloc _).alloc _).alloc _
      have hz2 : (((W.alloc (.cells #[.int .i64 (j : Int)] 3)).alloc (.cells #[.slice ad m cap] 22)).alloc (.cells #[.int .i64 (j : Int)] 3)).heap.size = W.heap.size + 1 + 1 + 1 := by simp
      obtain ⟨W2, hW2⟩ : ∃ x, (((W.alloc (.cells #[.int .i64 (j : Int)] 3)).alloc (.cells #[.slice ad m cap] 22)).alloc (.cells #[.int .i64 (j : Int)] 3)) = x := ⟨_, rfl⟩
      change Blk (((W.alloc (.cells #[.int .i64 (j : Int)] 3)).alloc (.cells #[.slice ad m cap] 22)).alloc (.cells #[.int .i64 (j : Int)] 3)) _ _ _ at e0
      change Blk (((W.alloc (.cells #[.int .i64 (j : Int)] 3)).alloc (.cells #[.slice ad m cap] 22)).alloc (.cells #[.int .i64 (j : Int)] 3)) _ _ _ at e1
      change Blk (((W.alloc (.cells #[.int .i64 (j : Int)] 3)).alloc (.cells #[.slice ad m cap] 22)).alloc (.cells #[.int .i64 (j : Int)] 3)) _ _ _ at e2
      rw [hW2] at e0 e1 e2 hEW hz2 ⊢
      clear hW2
      have hsW := hX3'.out.size
      have hsW2 := hX.size
      obtain ⟨q0, hq0⟩ : ∃ q, W.heap.size = q := ⟨_, rfl⟩
      obtain ⟨q2, hq2⟩ : ∃ q, q0 + 1 + 1 = q := ⟨_, rfl⟩
      obtain ⟨q1, hq1⟩ : ∃ q, q0 + 1 = q := ⟨_, rfl⟩
      rw [hq0] at e0 hz2
      rw [hq0, hq1] at e1
      rw [hq0, hq2] at e2
      rw [hq0, hq2, hq1]
      have hqq : q0 < q1 ∧ q1 < q2 ∧ q2 < W2.heap.size ∧ w.heap.size ≤ q0 := by omega
      have hq0v := hidden hq0
      have hR2 : Rd8 W2 (.slice ad m cap) X := Rd.ext hR.out (hXW.out.trans hEW)
      obtain ⟨bb, off, had, hbb, -⟩ := Rd.cells (show Rd W 1 (.slice ad m cap) m _ by have := Rd.ext hR.out hXW.out; unfold Rd8 at this; rw [hm.out] at this; exact this) (by omega)
      subst had
      rw [hq0] at hbb
      have hlt5 : ∀ z ∈ [q1, q2, bb], z < W2.heap.size := by
        intro z hz
        simp at hz
        omega
      have hPj := hPat.out j (by omega) W hXW.out
      have hPall : Hid (∀ k, k < m + 1 → ∀ W', Ext W W' → W'.cell? ⟨pb, po + k, none⟩ = some (.int .i64 (P.getD k 0))) := hidden (fun k hk W' hW' => hPat.out k hk W' (hXW.out.trans hW'))
      obtain ⟨x0, hx0⟩ : ∃ x, P.getD j 0 = x := ⟨_, rfl⟩
      replace hx0 := hidden hx0
      replace hz2 := hidden hz2
      clear hPj hq0 hq1 hq2
      refine wpIn_rangeFunc_ownH rfl (by omega) (gf := 49) (lb := #[.pointer (some ⟨q1, 0, none⟩), .pointer (some ⟨q2, 0, none⟩)]) rfl trivial (enters_of Try.func49 (by kernel_rfl) rfl)
        (choices_stops 7 (by omega) q1 q2 j (some ⟨bb, off, none⟩) m cap X hbd.out (by rw [hm.out]; exact hlt) hlX [q1, q2, bb] (by simp) (by simp) (fun _ g hg => by simp [Value.ownBlock] at hg; simp [hg]) W2 hlt5 e1 e2 hR2) keepz_t (keepz_b hlt5) (Below.refl _ _) (fun _ => rfl)
        (fun pre W' => (((Blk W' q0 3 [.int .i64 (j : Int)]) ∧ Below W.heap.size W W') ∧ AllGe X P j x0 pre) ∧ W2.heap.size ≤ W'.heap.size)
        (fun cd pre W' => (cd = .exit 0 ∧ SomeLt X P j x0 pre) ∧ Below W.heap.size W W')
        (OwnFrom.and (OwnFrom.and (OwnFrom.and (Own.from (blk_own _ _ _) _) (ownFrom_below (Nat.le_refl _) (by have := hq0v.out; omega))) (ownFrom_pure _ _)) (fun _ A B row hs hg _ => Nat.le_trans hs hg.size))
        (fun cd => OwnFrom.and (ownFrom_pure _ _) (ownFrom_below (Nat.le_refl _) (by have := hq0v.out; omega)))
        ⟨⟨⟨e0, hEW⟩, fun t ht => by cases ht⟩, Nat.le_refl _⟩
        (fun x a' W' => ∃ Bx, q2 < Bx ∧ Blk W' Bx 60 [.int .i64 x.1.1, .int .i64 x.1.2.1, .int .u8 x.1.2.2] ∧ a' = { tmps := (.slice (some ⟨bb, off, none⟩) m cap :: .slice al n cl :: .slice (some ⟨pb, po, none⟩) (m + 1) cp :: undef :: undef :: .pointer (some ⟨w.heap.size, 0, none⟩) :: .int .i64 0 :: .slice a1 X.length c1 :: .int .i64 0 :: .bool pr :: .pointer (some ⟨q0, 0, none⟩) :: .pointer (some ⟨Bx, 0, none⟩) :: undef :: undef :: .slice (some ⟨bb, off, none⟩) m cap :: .int .i64 (m : Int) :: .bool (decide (65536 < (m : Int))) :: .tuple #[.slice a1 X.length c1, .int .i64 0] :: .slice al n cl :: .tuple #[.slice a1 X.length c1, .int .i64 0] :: .slice a1 X.length c1 :: .int .i64 0 :: .int .i64 0 :: .bool false :: undef :: .slice a1 X.length c1 :: .slice (some ⟨bb, off, none⟩) m cap :: .bool true :: .bool false :: .slice (some ⟨pb, po, none⟩) (m + 1) cp :: .int .i64 ((m : Int) + 1) :: .slice (some ⟨bb, off, none⟩) m cap :: .int .i64 (m : Int) :: .int .i64 ((m : Int) + 1) :: .bool false :: .slice (some ⟨pb, po, none⟩) (m + 1) cp :: .bool false :: .slice (some ⟨pb, po, none⟩) (m + 1) cp :: .slice (some ⟨bb, off, none⟩) m cap :: .int .i64 (m : Int) :: .pointer (some ⟨pb, po + m, none⟩) :: .int .i64 0 :: .bool false :: .slice (some ⟨bb, off, none⟩) m cap :: .int .i64 (m : Int) :: .int .i64 (j : Int) :: .bool true :: .int .i64 (j : Int) :: .slice (some ⟨bb, off, none⟩) m cap :: .int .i64 (j : Int) :: .func (.func 49) #[] #[.pointer (some ⟨q1, 0, none⟩), .pointer (some ⟨q2, 0, none⟩)] :: .agg #[.int .i64 x.1.1, .int .i64 x.1.2.1, .int .u8 x.1.2.2] :: u52 :: u53 :: u54 :: u55 :: u56 :: u57 :: u58 :: u59 :: u60 :: u61 :: u62 :: u63 :: u64 :: u65 :: u66 :: u67 :: u68 :: u69 :: u70 :: u71 :: u72 :: undef :: undef :: undef :: undef :: undef :: undef :: undef :: undef :: undef :: undef :: undef :: undef :: undef :: undef :: undef :: undef :: undef :: [] : List Value).toArray, defers := [] })
        (fun x a' s A B row hs hg hr => by obtain ⟨Bx, h1, h2, h3⟩ := hs; exact ⟨Bx, h1, blk_own Bx _ _ () A B row h2 hg (fun r e => (hr r e).2), h3⟩) ?assign ?body ?done ?stop
      case assign =>
        rintro l' pre ⟨⟨L, Ds, B⟩, hx⟩ W' K ⟨⟨⟨i0, iB⟩, ip⟩, iz⟩ hK
        have iB' : Ext W W' := iB
        have hW6 : q2 < W'.heap.size := by omega
        gi_wp2
        refine hK _ _ ((KeepsOthers.alloc _ _).from _) ⟨KeepS.ext ((Ext.refl W').alloc _) (fun z hz => ?_), by simp⟩ ⟨⟨⟨i0.alloc _, iB'.alloc _⟩, ip⟩, by simp; omega⟩ ⟨W'.heap.size, hW6, Blk.new _ _ _, rfl⟩
        have := hlt5 z hz
        omega
      case body =>
        rintro l' pre ⟨⟨L, Ds, B⟩, hx⟩ a' W' hl0 ⟨rr, hrr⟩ ⟨⟨⟨i0, iB⟩, ip⟩, iz⟩ ⟨Bx, hBx, bX, rfl⟩ hlen
        have iB' : Ext W W' := iB
        obtain ⟨k1, k2, k3, k4, k5', k6⟩ := chc_ok hbd.out (show j < X.length by rw [hm.out]; exact hlt) (Nat.min_le_left 4096 j) (Nat.min_le_right 4096 j) hx
        have hpz := hps.out L Ds B
        have hpc := hpr0.out L Ds B
        change ∀ W, Calls Try.prog _ #[.agg #[.int .i64 L, .int .i64 Ds, .int .u8 B]] W _ at hpc
        have hpd := prc_bd (L, Ds, B)
        have hct : ctP P j (L, Ds, B) = prc (L, Ds, B) + P.getD (j + (szT (L, Ds, B)).toNat) 0 := rfl
        obtain ⟨z, hz⟩ : ∃ z, szT (L, Ds, B) = z := ⟨_, rfl⟩
        obtain ⟨c, hc⟩ : ∃ c, prc (L, Ds, B) = c := ⟨_, rfl⟩
        rw [hz] at k3 k5' k6 hct
        rw [hc] at hpd hct
        rw [hm.out] at k3
        simp only [hz] at hpz
        simp only [hc] at hpc
        obtain ⟨zn, rfl⟩ : ∃ n : Nat, z = (n : Int) := ⟨z.toNat, by omega⟩
        rw [Int.toNat_natCast] at hct
        have cP := hPall.out (j + zn) (by omega) W' iB'
        have cJ := hPall.out j (by omega) W' iB'
        rw [hx0.out] at cJ
        have hPi : j + zn < P.length := by rw [hr.out]; omega
        have bP : 0 ≤ P.getD (j + zn) 0 ∧ P.getD (j + zn) 0 ≤ 589824 := by
          have e : P.getD (j + zn) 0 = P[j + zn] := by simp [List.getD, hPi]
          rw [e]; exact hPok.out _ (List.getElem_mem hPi)
        obtain ⟨y, hy⟩ : ∃ y, P.getD (j + zn) 0 = y := ⟨_, rfl⟩
        rw [hy] at cP bP hct
        have bX0 := bX.cell 0 _ rfl
        have bX1 := bX.cell 1 _ rfl
        have bX2 := bX.cell 2 _ rfl
        have a0 := i0.cell 0 _ rfl
        have a1' := (b4.out.ext iB').cell 0 _ rfl
        obtain ⟨S, hSd⟩ : ∃ S : World → Prop, S = fun W'' => ((((((W''.cell? ⟨Bx, 0, none⟩ = some (.int .i64 L) ∧ W''.cell? ⟨Bx, 1, none⟩ = some (.int .i64 Ds)) ∧ W''.cell? ⟨Bx, 2, none⟩ = some (.int .u8 B)) ∧ W''.cell? ⟨q0, 0, none⟩ = some (.int .i64 (j : Int))) ∧ W''.cell? ⟨w.heap.size, 0, none⟩ = some (.slice (some ⟨pb, po, none⟩) (m + 1) cp)) ∧ W''.cell? ⟨pb, po + j, none⟩ = some (.int .i64 x0)) ∧ W''.cell? ⟨pb, po + (j + zn), none⟩ = some (.int .i64 y)) := ⟨_, rfl⟩
        have hSi : Hid (∀ W'', Ext W' W'' → S W'') := hidden (fun W'' hX => by rw [hSd]; exact ⟨⟨⟨⟨⟨⟨hX.cell bX0, hX.cell bX1⟩, hX.cell bX2⟩, hX.cell a0⟩, hX.cell a1'⟩, hX.cell cJ⟩, hX.cell cP⟩)
        have hSo : Hid (∀ W'', S W'' → ((((((W''.cell? ⟨Bx, 0, none⟩ = some (.int .i64 L) ∧ W''.cell? ⟨Bx, 1, none⟩ = some (.int .i64 Ds)) ∧ W''.cell? ⟨Bx, 2, none⟩ = some (.int .u8 B)) ∧ W''.cell? ⟨q0, 0, none⟩ = some (.int .i64 (j : Int))) ∧ W''.cell? ⟨w.heap.size, 0, none⟩ = some (.slice (some ⟨pb, po, none⟩) (m + 1) cp)) ∧ W''.cell? ⟨pb, po + j, none⟩ = some (.int .i64 x0)) ∧ W''.cell? ⟨pb, po + (j + zn), none⟩ = some (.int .i64 y))) := hidden (fun W'' h => by rw [hSd] at h; exact h)
        have v2 : IntKind.i64.wrap ((j : Int) + (zn : Int)) = (j : Int) + (zn : Int) := IntWalk.i64_in _ (by omega)
        have v3 : IntKind.i64.wrap (c + y) = c + y := IntWalk.i64_in _ (by omega)
        have j1 : (0 : Int) ≤ (j : Int) + (zn : Int) := by omega
        have j2 : (j : Int) + (zn : Int) < (m : Int) + 1 := by omega
        have j3 : ((j : Int) + (zn : Int)).toNat = j + zn := by omega
        have j4 : (j : Int) < (m : Int) + 1 := by omega
        replace hct := hidden hct
        replace hpz := hidden hpz
        replace hpc := hidden hpc
        replace ip := hidden ip
        clear bX0 bX1 bX2 a0 a1' cP cJ hSd hPi hy hz hc k1 k2 k4
        gi_wp2
        rename_i KK hKK
        refine wpIn_round_held S (by kernel_rfl) (fun ⟨_, _, h⟩ => (show False from h)) (by kernel_rfl) ?_
        have hS1 := hSi.out W'.drew (Ext.refl W').drew
        refine takeH 0 (.slice (some ⟨pb, po, none⟩) (m + 1) cp) rfl rfl (by kernel_rfl) (by kernel_rfl) (by kernel_rfl) (fun _ _ _ h => h) (by rfl) (fun w' hw' => by obtain ⟨⟨⟨⟨⟨⟨y0, y1⟩, y2⟩, y3⟩, y4⟩, y5⟩, y6⟩ := hSo.out w' hw'; go_simp) hS1 ?_
        simp only [List.setIfInBounds_toArray, List.set_cons_zero, List.set_cons_succ]
        refine takeH 1 (.int .i64 (j : Int)) rfl rfl (by kernel_rfl) (by kernel_rfl) (by kernel_rfl) (fun _ _ _ h => h) (by rfl) (fun w' hw' => by obtain ⟨⟨⟨⟨⟨⟨y0, y1⟩, y2⟩, y3⟩, y4⟩, y5⟩, y6⟩ := hSo.out w' hw'; go_simp) hS1 ?_
        simp only [List.setIfInBounds_toArray, List.set_cons_zero, List.set_cons_succ]
        refine takeH 2 (.pointer (some ⟨pb, po + j, none⟩)) rfl rfl (by kernel_rfl) (by kernel_rfl) (by kernel_rfl) (fun _ _ _ h => h) (by rfl) (fun w' hw' => by go_simp) hS1 ?_
        simp only [List.setIfInBounds_toArray, List.set_cons_zero, List.set_cons_succ]
        refine takeH 3 (.int .i64 x0) rfl rfl (by kernel_rfl) (by kernel_rfl) (by kernel_rfl) (fun _ _ _ h => h) (by rfl) (fun w' hw' => by obtain ⟨⟨⟨⟨⟨⟨y0, y1⟩, y2⟩, y3⟩, y4⟩, y5⟩, y6⟩ := hSo.out w' hw'; go_simp) hS1 ?_
        simp only [List.setIfInBounds_toArray, List.set_cons_zero, List.set_cons_succ]
        refine takeH 4 (.agg #[.int .i64 L, .int .i64 Ds, .int .u8 B]) rfl rfl (by kernel_rfl) (by kernel_rfl) (by kernel_rfl) (fun _ _ _ h => h) (by rfl) (fun w' hw' => by obtain ⟨⟨⟨⟨⟨⟨y0, y1⟩, y2⟩, y3⟩, y4⟩, y5⟩, y6⟩ := hSo.out w' hw'; go_simp) hS1 ?_
        simp only [List.setIfInBounds_toArray, List.set_cons_zero, List.set_cons_succ]
        refine takeH 6 (.slice (some ⟨pb, po, none⟩) (m + 1) cp) rfl rfl (by kernel_rfl) (by kernel_rfl) (by kernel_rfl) (fun _ _ _ h => h) (by rfl) (fun w' hw' => by obtain ⟨⟨⟨⟨⟨⟨y0, y1⟩, y2⟩, y3⟩, y4⟩, y5⟩, y6⟩ := hSo.out w' hw'; go_simp) hS1 ?_
        simp only [List.setIfInBounds_toArray, List.set_cons_zero, List.set_cons_succ]
        refine takeH 7 (.int .i64 (j : Int)) rfl rfl (by kernel_rfl) (by kernel_rfl) (by kernel_rfl) (fun _ _ _ h => h) (by rfl) (fun w' hw' => by obtain ⟨⟨⟨⟨⟨⟨y0, y1⟩, y2⟩, y3⟩, y4⟩, y5⟩, y6⟩ := hSo.out w' hw'; go_simp) hS1 ?_
        simp only [List.setIfInBounds_toArray, List.set_cons_zero, List.set_cons_succ]
        refine takeH 8 (.agg #[.int .i64 L, .int .i64 Ds, .int .u8 B]) rfl rfl (by kernel_rfl) (by kernel_rfl) (by kernel_rfl) (fun _ _ _ h => h) (by rfl) (fun w' hw' => by obtain ⟨⟨⟨⟨⟨⟨y0, y1⟩, y2⟩, y3⟩, y4⟩, y5⟩, y6⟩ := hSo.out w' hw'; go_simp) hS1 ?_
        simp only [List.setIfInBounds_toArray, List.set_cons_zero, List.set_cons_succ]
        refine callH 5 37 #[.agg #[.int .i64 L, .int .i64 Ds, .int .u8 B]] rfl rfl (by kernel_rfl) (by rfl) (by go_simp) (hpc.out _) ?_
        rintro e w4 ⟨rfl, g3⟩
        refine ⟨_, rfl, hSi.out w4 ((Ext.refl W').drew.trans g3), ?_⟩
        simp only [List.setIfInBounds_toArray, List.set_cons_zero, List.set_cons_succ]
        refine callH 9 34 #[.agg #[.int .i64 L, .int .i64 Ds, .int .u8 B]] rfl rfl (by kernel_rfl) (by rfl) (by go_simp) (hpz.out _) ?_
        rintro e w5 ⟨rfl, g4⟩
        have gX : Ext W' w5 := ((Ext.refl W').drew.trans g3).trans g4
        have hS4 := hSi.out w5 gX
        refine ⟨_, rfl, hS4, ?_⟩
        simp only [List.setIfInBounds_toArray, List.set_cons_zero, List.set_cons_succ]
        refine takeH 10 (.int .i64 ((j : Int) + (zn : Int))) rfl rfl (by kernel_rfl) (by kernel_rfl) (by kernel_rfl) (fun _ _ _ h => h) (by rfl) (fun w' hw' => by go_simp) hS4 ?_
        simp only [List.setIfInBounds_toArray, List.set_cons_zero, List.set_cons_succ]
        refine takeH 11 (.pointer (some ⟨pb, po + (j + zn), none⟩)) rfl rfl (by kernel_rfl) (by kernel_rfl) (by kernel_rfl) (fun _ _ _ h => h) (by rfl) (fun w' hw' => by go_simp) hS4 ?_
        simp only [List.setIfInBounds_toArray, List.set_cons_zero, List.set_cons_succ]
        refine takeH 12 (.int .i64 y) rfl rfl (by kernel_rfl) (by kernel_rfl) (by kernel_rfl) (fun _ _ _ h => h) (by rfl) (fun w' hw' => by obtain ⟨⟨⟨⟨⟨⟨y0, y1⟩, y2⟩, y3⟩, y4⟩, y5⟩, y6⟩ := hSo.out w' hw'; go_simp) hS4 ?_
        simp only [List.setIfInBounds_toArray, List.set_cons_zero, List.set_cons_succ]
        refine takeH 13 (.int .i64 (c + y)) rfl rfl (by kernel_rfl) (by kernel_rfl) (by kernel_rfl) (fun _ _ _ h => h) (by rfl) (fun w' hw' => by go_simp) hS4 ?_
        simp only [List.setIfInBounds_toArray, List.set_cons_zero, List.set_cons_succ]
        refine takeH 14 (.bool (decide (c + y < x0))) rfl rfl (by kernel_rfl) (by kernel_rfl) (by kernel_rfl) (fun _ _ _ h => h) (by rfl) (fun w' hw' => by go_simp) hS4 ?_
        simp only [List.setIfInBounds_toArray, List.set_cons_zero, List.set_cons_succ]
        refine wpAnyH_done (by kernel_rfl) ?_ _
        show KK _ _
        refine hKK _ _ ?_
        have hz4 := gX.size
        have hkS : KeepS [q1, q2, bb] W' w5 := KeepS.ext gX (fun z hz => by have := hlt5 z hz; omega)
        have hko : KeepsOthers W' w5 := KeepsOthers.of_grownBy gX.grown (fun j o e => by cases e)
        have hQ4 : Ext W w5 := iB'.trans gX
        have q4 := i0.ext gX
        replace hkS := hidden hkS
        replace hko := hidden hko
        replace hQ4 := hidden hQ4
        replace q4 := hidden q4
        clear i0 iB iB' hS4 hS1 g3 g4 gX hpz hpc bX
        by_cases hb1 : c + y < x0
        · gi_wp2
          refine ⟨hko.out.from _, ⟨rfl, _, List.mem_append_right _ (List.mem_singleton.2 rfl), ?_⟩, hQ4.out⟩
          rw [hct.out]; exact hb1
        · gi_wp2
          refine ⟨hko.out.from _, ⟨hkS.out, hz4⟩, ?_⟩
          refine ⟨⟨⟨q4.out, hQ4.out⟩, ?_⟩, by omega⟩
          intro t ht
          rcases List.mem_append.1 ht with ht | ht
          · exact ip.out t ht
          · rw [List.mem_singleton] at ht
            subst ht
            rw [hct.out]; omega
      case done =>
        rintro D ys W' hD hys ⟨⟨⟨i0, iB⟩, ip⟩, iz⟩ hK
        have iB' : Ext W W' := iB
        have a0 := i0.cell 0 _ rfl
        have hok' : P.getD j 0 ≤ (beF X P j).1 := by
          have hsp := (beL_spec (P := P) (fun x hx => (hPok.out x hx).1) j (chF X j) (chF_ne X j))
          have hmem : (beL P j (chF X j)).2 ∈ ys.map (fun t : ChT X j => t.1) := by rw [hys]; exact hsp.1
          obtain ⟨t, ht, he⟩ := List.mem_map.1 hmem
          have := ip t ht
          rw [he] at this
          rw [hx0.out]
          unfold beF
          rw [hsp.2.1]
          exact this
        have hq' := hidden (okTo_succ hq.out hok')
        have v4 : IntKind.i64.wrap ((m : Int) - 1) = (m : Int) - 1 := IntWalk.i64_in _ (by omega)
        have hnd' : Hid (D :: Es).Nodup := hidden (List.nodup_cons.2 ⟨fun hD' => by have h1 := (hEs.out D hD').1; have := (Array.getElem?_eq_some_iff.1 h1).1; have := hq0v.out; omega, hnd.out⟩)
        have hEs' : Hid (∀ E ∈ D :: Es, W'.heap[E]? = some (.deferred (some [])) ∧ w.heap.size ≤ E) := hidden (fun E hE => by
          rcases List.mem_cons.1 hE with rfl | hE
          · exact ⟨hK, by omega⟩
          · have h1 := hEs.out E hE
            exact ⟨(iB.block E (Array.getElem?_eq_some_iff.1 h1.1).1).trans h1.1, h1.2⟩)
        have hX' := hX.trans iB'
        replace i0 := hidden i0
        replace ip := hidden ip
        replace hK := hidden hK
        clear hok' iB iB'
        gi_wp2
        refine ⟨⟨j + 1, _, D :: Es, _, _, _, _, _, _, _, _, _, _, _, _, _, _, _, _, _, _, _, _, _, _, _, _, _, _, _, _, _, rfl, by omega, hidden ?_, hq', hnd', hEs', hX'⟩, ?_⟩
        · rw [Bool.eq_iff_iff]; simp; omega
        · simp [intOf]; omega
      case stop =>
        rintro D cd pre W' hD - ⟨⟨rfl, t, ht, hlt2⟩, iB⟩ hK
        have iB' : Ext W W' := iB
        have hC18 : Hid (C = 18) := hidden (by
          have hsp := (beL_spec (P := P) (fun x hx => (hPok.out x hx).1) j (chF X j) (chF_ne X j)).2.2.2
          have hlow := low_at (D := X) (P := P) (k := j) (by rw [hm.out]; exact hlt) (by
            rw [hx0.out]
            rcases Int.lt_or_le (beF X P j).1 x0 with g | g
            · exact g
            · exfalso
              have hf := fit_cost (b := X) (Q := P) (a := j) (t := t.1) ⟨by rw [hm.out]; exact hlt, t.2⟩ (fun u hu => by rw [hx0.out]; exact Int.le_trans g (hsp u hu))
              rw [hx0.out] at hf
              omega)
          have := hC.out
          rw [if_pos hlow] at this
          exact this.symm)
        have hpr2 : pr = false := by rw [hpr.out]; simp; omega
        have hnd' : Hid (D :: Es).Nodup := hidden (List.nodup_cons.2 ⟨fun hD' => by have h1 := (hEs.out D hD').1; have := (Array.getElem?_eq_some_iff.1 h1).1; have := hq0v.out; omega, hnd.out⟩)
        have hEs' : Hid (∀ E ∈ D :: Es, W'.heap[E]? = some (.deferred (some [])) ∧ w.heap.size ≤ E) := hidden (fun E hE => by
          rcases List.mem_cons.1 hE with rfl | hE
          · exact ⟨hK, by omega⟩
          · have h1 := hEs.out E hE
            exact ⟨(iB.block E (Array.getElem?_eq_some_iff.1 h1.1).1).trans h1.1, h1.2⟩)
        have hXw := hidden (hXW.out.trans iB')
        have hm0 : (0 : Int) < (m : Int) := by omega
        replace hK := hidden hK
        subst hpr2
        clear iB iB' hlt2 hpr
        gi_wp2
        exact leaves_many (fun W'' hW'' => ⟨_, results_tmp rfl _ _ _, ret_int hC18.out.symm, hW''⟩) (D :: Es) W' hnd'.out hEs'.out hXw.out
    · have hltI : ¬ (j : Int) < (m : Int) := by omega
      have hjm : j = m := by omega
      have hlf : lowP X P = false := okTo_all (by rw [hm.out]; have := hq.out; rw [hjm] at this; exact this)
      have hC4 := hC.out
      rw [if_neg (by simp [hlf])] at hC4
      have hc5 := hCo.out W (Rd.ext hT.out hXW)
      rw [hco1] at hc5
      have hP0 := hPat.out 0 (by omega)
      obtain ⟨s, hs⟩ : ∃ s, sumP l = s := ⟨_, rfl⟩
      obtain ⟨y, hy⟩ : ∃ y, P.getD 0 0 = y := ⟨_, rfl⟩
      rw [hs, hy] at hC4
      rw [hs] at hc5
      rw [hy] at hP0
      simp only [Nat.add_zero] at hP0
      simp only at hc5
      replace hc5 := hidden hc5
      replace hP0 := hidden hP0
      have hm1 : (0 : Int) < (m : Int) + 1 := by omega
      have hm2 : 0 < m + 1 := by omega
      have hprv : pr = decide (0 < m) := by rw [hpr.out, hjm]; simp
      replace b4 := hidden b4
      replace hXW := hidden hXW
      replace hjm := hidden hjm
      clear hlf hs hy hco1 hpr
      by_cases hm0 : m = 0
      all_goals
        first | (have hm3 : ¬ (0 : Int) < (m : Int) := by omega) | (have hm3 : (0 : Int) < (m : Int) := by omega)
        (try have hpr3 : pr = true := by rw [hprv]; simp; omega)
        (try subst hpr3)
        clear hprv
        replace hm0 := hidden hm0
        by_cases hsy : s = y
        all_goals
          first | (have e1 : (s != y) = false := by simp [hsy]) | (have e1 : (s != y) = true := by simp [hsy])
          first | (have e2 : (s == y) = true := by simp [hsy]) | (have e2 : (s == y) = false := by simp [hsy])
          first | rw [if_pos hsy] at hC4 | rw [if_neg (fun h => h hsy)] at hC4
          replace hC4 := hidden hC4
          clear hsy
          gi_wp2_with (refine ⟨trivial, ?_⟩; gi_at_call 19; refine (callsIn_wide.2 hc5.out).mono ?_; rintro e w5 ⟨rfl, g5⟩; have cP := hP0.out w5 (hXW.out.trans g5); have y9 := (b4.out.ext g5).cell 0 _ rfl)
          have hEs' : ∀ E ∈ Es, w5.heap[E]? = some (.deferred (some [])) ∧ w.heap.size ≤ E := fun E hE => by
            have h1 := hEs.out E hE
            have g5' : Below W.heap.size W w5 := g5
            exact ⟨(g5'.block E (Array.getElem?_eq_some_iff.1 h1.1).1).trans h1.1, h1.2⟩
          exact leaves_many (fun W'' hW'' => ⟨_, results_tmp rfl _ _ _, ret_int hC4.out, hW''⟩) Es w5 hnd.out hEs' (hXW.out.trans g5)
end Go.Proofs.Ytjfdmhdmadnkoaa
