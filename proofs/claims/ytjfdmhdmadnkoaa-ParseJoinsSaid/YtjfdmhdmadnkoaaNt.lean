/- Layer 36: the statement ParseJoins. -/
import Derived.Test.YtjfdmhdmadnkoaaNn
namespace Go.Proofs.Ytjfdmhdmadnkoaa
open Go.RowKit
set_option linter.unusedVariables false
attribute [local go_sem ↓] Go.wp_at_zero Go.wp_at_succ

theorem bs_ones (l : List Int) : ∀ u ∈ bs l, u.oneCell' = true := fun u hu => by obtain ⟨x, -, rfl⟩ := List.mem_map.1 hu; rfl
theorem bytes_app {a b : List Int} (ha : Bytes a) (hb : Bytes b) : Bytes (a ++ b) := fun x hx => by
  rcases List.mem_append.1 hx with h | h
  · exact ha x h
  · exact hb x h

set_option maxRecDepth 100000 in
set_option maxHeartbeats 16000000 in
theorem ParseJoins_law (va : Value) (A : List Int) (vb : Value) (B : List Int) (hA : Bytes A) (hB : Bytes B) (w : World) (ha : Rd8 w va A) (hb : Rd8 w vb B) :
    Calls Try.prog 7 #[va, vb] w fun x w' => x = .returned (.bool true) ∧ Ext w w' := by
  have haw := hidden pawake_any
  obtain ⟨a, ca, rfl, q1, q2, q3⟩ := Rd.shape ha
  obtain ⟨b, cb, rfl, p1, p2, p3⟩ := Rd.shape hb
  have hsplit : 60 < A.length ∨ (A.length ≤ 60 ∧ 60 < B.length) ∨ (A.length ≤ 60 ∧ B.length ≤ 60) := by omega
  rcases hsplit with k | ⟨k0, k⟩ | ⟨k0, k⟩
  · obtain ⟨n, hn⟩ : ∃ n, A.length = n := ⟨_, rfl⟩
    obtain ⟨m, hm⟩ : ∃ n, B.length = n := ⟨_, rfl⟩
    rw [hn] at k q1 ⊢
    rw [hm] at p1 ⊢
    clear ha hb hn hm hA hB
    go_enter Try.func7, Try.ntmps7
    go_wp2_with fail
    refine (haw.out _).mono ?_
    rintro e1 w1 ⟨rfl, g1⟩
    go_wp2_with fail
    go_ret
    exact ⟨rfl, g1⟩
  · obtain ⟨n, hn⟩ : ∃ n, A.length = n := ⟨_, rfl⟩
    obtain ⟨m, hm⟩ : ∃ n, B.length = n := ⟨_, rfl⟩
    rw [hn] at k0 q1 ⊢
    rw [hm] at p1 k ⊢
    clear ha hb hn hm hA hB
    go_enter Try.func7, Try.ntmps7
    go_wp2_with fail
    refine (haw.out _).mono ?_
    rintro e1 w1 ⟨rfl, g1⟩
    go_wp2_with fail
    go_ret
    exact ⟨rfl, g1⟩
  · have c1 := fun W hW => popt_any (.slice a A.length ca) A hA (by omega) W hW
    rw [show optE A = (0, opF A, (poF A).getD 0 0) by unfold optE; rw [if_neg (by omega)]] at c1
    have c2 := fun W hW => popt_any (.slice b B.length cb) B hB (by omega) W hW
    rw [show optE B = (0, opF B, (poF B).getD 0 0) by unfold optE; rw [if_neg (by omega)]] at c2
    have hAB := bytes_app hA hB
    have hln : (A ++ B).length = A.length + B.length := List.length_append
    have c3 := fun u W hW => popt_any u (A ++ B) hAB (by omega) W hW
    rw [show optE (A ++ B) = (0, opF (A ++ B), (poF (A ++ B)).getD 0 0) by unfold optE; rw [if_neg (by omega)]] at c3
    have c4 := fun u W hW => ppot_any u (A ++ B) hAB (by omega) W hW
    rw [show potE (A ++ B) = (0, poF (A ++ B)) by unfold potE; rw [if_neg (by omega)]] at c4
    have f1 := po_join hA hB
    have f2 := po_behind (A := A) hB
    have f3 := fun (i : Nat) (hi : i < (A ++ B).length) => po_step (D := A ++ B) hi
    have f4 := poF_end (A ++ B)
    have f5 := poF_len (A ++ B)
    have f6 := fun x hx => poW_bd (A ++ B) (A ++ B).length x hx
    have hnnA := (poF_nn A).get 0
    have hnnB := (poF_nn B).get 0
    have hbA : (poF A).getD 0 0 ≤ 100000 := by
      have := sumP_bd (opF A)
      have := opF_sum hA
      have := (fac_all hA (by omega) (opF_fac hA)).2.2.1
      omega
    have hbB : (poF B).getD 0 0 ≤ 100000 := by
      have := sumP_bd (opF B)
      have := opF_sum hB
      have := (fac_all hB (by omega) (opF_fac hB)).2.2.1
      omega
    obtain ⟨zA, hzA⟩ : ∃ z, (poF A).getD 0 0 = z := ⟨_, rfl⟩
    obtain ⟨zB, hzB⟩ : ∃ z, (poF B).getD 0 0 = z := ⟨_, rfl⟩
    obtain ⟨zW, hzW⟩ : ∃ z, (poF (A ++ B)).getD 0 0 = z := ⟨_, rfl⟩
    obtain ⟨P, hP⟩ : ∃ z, poF (A ++ B) = z := ⟨_, rfl⟩
    rw [hzA] at c1 f1 hnnA hbA
    rw [hzB] at c2 f1 f2 hnnB hbB
    rw [hzW] at c3 f1
    rw [hP] at c4 f2 f4 f5 hzW
    simp only [hP] at f3
    have f6' : ∀ x ∈ P, 0 ≤ x ∧ x ≤ 41 * ((A ++ B).length : Int) := fun x hx => f6 x (by unfold poF at hP; rw [hP]; exact hx)
    obtain ⟨lA, hlA⟩ : ∃ z, opF A = z := ⟨_, rfl⟩
    obtain ⟨lB, hlB⟩ : ∃ z, opF B = z := ⟨_, rfl⟩
    obtain ⟨lW, hlW⟩ : ∃ z, opF (A ++ B) = z := ⟨_, rfl⟩
    rw [hlA] at c1
    rw [hlB] at c2
    rw [hlW] at c3
    obtain ⟨X, hX⟩ : ∃ X, A ++ B = X := ⟨_, rfl⟩
    rw [hX] at c3 c4 hln
    rw [hX] at f4 f5 f6'
    simp only [hX] at f3
    obtain ⟨n, hn⟩ : ∃ n, A.length = n := ⟨_, rfl⟩
    obtain ⟨m, hm⟩ : ∃ n, B.length = n := ⟨_, rfl⟩
    have H : Hid (Rd8 w (.slice a n ca) A) := hidden (by rw [← hn]; exact ha)
    have HB : Hid (Rd8 w (.slice b m cb) B) := hidden (by rw [← hm]; exact hb)
    rw [hn] at k0 q1 c1 hln f2 ⊢
    rw [hm] at p1 k c2 hln ⊢
    obtain ⟨r, hr⟩ : ∃ r, n + m = r := ⟨_, rfl⟩
    rw [hr] at hln
    rw [hln] at f4 f5 f6' f3
    have hr2 : r ≤ 120 ∧ n ≤ r := by omega
    obtain ⟨hr3, hr4⟩ := hr2
    replace hX := hidden hX
    replace hln := hidden hln
    replace hn := hidden hn
    replace hm := hidden hm
    replace f2 := hidden f2
    replace f3 := hidden f3
    replace f4 := hidden f4
    replace f5 := hidden f5
    replace f6' := hidden f6'
    replace hzW := hidden hzW
    replace c1 := hidden c1
    replace c2 := hidden c2
    replace c3 := hidden c3
    replace c4 := hidden c4
    replace hr := hidden hr
    obtain ⟨i0, hi, hz0, hz1, hz2⟩ := info_parts u8info
    have Z0 := hidden (own_zero w 5 1)
    have hRA : Hid (Rd8 (w.alloc (.cells #[] 5)) (.slice a n ca) A) := hidden (Rd.alloc H.out _)
    have hRA2 : Hid (Rd (w.alloc (.cells #[] 5)) 1 (.slice a n ca) n (bs A)) := hidden (by have := hRA.out; unfold Rd8 at this; rw [hn.out] at this; exact this)
    clear ha hb hA hB hzA hzB hP hlA hlB hlW hAB f6
    go_enter Try.func7, Try.ntmps7
    go_wp2_with (first | (at_builtin; refine wpList_append_rd (by rfl) _ _ 22 (by rfl) w.heap.size 5 i0 (.int .u8 0) 1 1 Try.underlying22 hi hz0 hz1 hz2 rfl (by decide) (.slice (some ⟨w.heap.size, 0, none⟩) 0 0) 0 [] (by rfl) Z0.out a n ca (bs A) (by rfl) hRA2.out (bs_ones A) (by unfold maxLen; omega) (by omega) (by simp) ?_; rw [Nat.zero_add, List.nil_append]; intro v1 w1 hO1 hg1 _; have x1 : Ext w w1 := ((((Chg.of_ext [] (Ext.refl w)).alloc (.cells #[] 5)).grown hg1 (fun k hk => Or.inr (by simp [Value.ownBlock] at hk; omega)))).ext; have hRB : Rd w1 1 (.slice b m cb) m (bs B) := (by have h9 : Rd8 w1 (.slice b m cb) B := Rd.ext HB.out x1; unfold Rd8 at h9; rw [hm.out] at h9; exact h9); have hgs := x1.size; obtain ⟨a1, k1, rfl, -, -, -⟩ := own_shape hO1; have hO1h := hidden hO1; replace hRB := hidden hRB; replace x1 := hidden x1; clear hO1 hg1) | (at_builtin; refine wpList_append_rd (by rfl) _ _ 22 (by rfl) w.heap.size 5 i0 (.int .u8 0) 1 1 Try.underlying22 hi hz0 hz1 hz2 rfl (by decide) (.slice a1 n k1) n (bs A) (by rfl) hO1h.out b m cb (bs B) (by rfl) hRB.out (bs_ones B) (by unfold maxLen; omega) (by omega) hgs ?_; rw [hr.out]; intro v2 w2 hO2 hg2 _; have x2 : Ext w w2 := ((Chg.of_ext [] x1.out).grown hg2 (fun k hk => Or.inr (own_lt hO1h.out hk).1)).ext; obtain ⟨a2, k2, rfl, -, -, -⟩ := own_shape hO2; have hO2h := hidden hO2; replace x2 := hidden x2; clear hO2 hg2))
    have XR : Hid (∀ W, Ext w2 W → Rd8 W (.slice a2 r k2) X) := hidden (fun W hW => by
      have h1 : Rd w2 1 (.slice a2 r k2) r (bs A ++ bs B) := Rd.of_own hO2h.out
      have h2 := Rd.ext h1 hW
      unfold Rd8
      rw [hln.out, ← hX.out, bs_app]
      exact h2)
    refine (c1.out _ (Rd.ext H.out x2.out)).mono ?_
    rintro y3 w3 he
    obtain ⟨v3, rfl, O3, g3⟩ := he
    obtain ⟨a3, d3, rfl, -, -, -⟩ := Rd.shape O3.toks
    have x3 := hidden (x2.out.trans g3)
    have z3 := hidden g3
    clear O3 g3
    go_wp2_with fail
    refine (c2.out _ (Rd.ext HB.out x3.out)).mono ?_
    rintro y4 w4 he
    obtain ⟨v4, rfl, O4, g4⟩ := he
    obtain ⟨a4, d4, rfl, -, -, -⟩ := Rd.shape O4.toks
    have x4 := hidden (x3.out.trans g4)
    have z4 := hidden (z3.out.trans g4)
    clear O4 g4 z3
    go_wp2_with fail
    refine (c3.out _ _ (XR.out _ z4.out)).mono ?_
    rintro y5 w5 he
    obtain ⟨v5, rfl, O5, g5⟩ := he
    obtain ⟨a5, d5, rfl, -, -, -⟩ := Rd.shape O5.toks
    have x5 := hidden (x4.out.trans g5)
    have z5 := hidden (z4.out.trans g5)
    clear O5 g5 z4
    go_wp2_with fail
    refine (c4.out _ _ (XR.out _ z5.out)).mono ?_
    rintro y6 w6 he
    obtain ⟨v6, rfl, O6, g6⟩ := he
    simp only at O6
    obtain ⟨a6, d6, rfl, -, -, f7⟩ := own_shape O6
    have x6 := hidden (x5.out.trans g6)
    rw [f5.out] at f7 ⊢
    have hO6 : OwnI w6 w5.heap.size (.slice a6 (r + 1) d6) P := by have := O6; rw [f5.out] at this; exact this
    obtain ⟨gp, rfl, -, -⟩ := f7 (by omega)
    have cAt : Hid (∀ W, Ext w6 W → ∀ i, i < r + 1 → W.cell? ⟨gp, i, none⟩ = some (.int .i64 (P.getD i 0))) := hidden (fun W hW i hi => hW.cell (OwnI.at hO6 i (by rw [f5.out]; exact hi)))
    have cb0 : ∀ i, i < r + 1 → 0 ≤ P.getD i 0 ∧ P.getD i 0 ≤ 10000 := fun i hi => by
      have hi2 : i < P.length := by rw [f5.out]; exact hi
      have e : P.getD i 0 = P[i] := by simp [List.getD, hi2]
      have := f6'.out _ (List.getElem_mem hi2)
      rw [e]
      omega
    replace cb0 := hidden cb0
    have c0 := cAt.out w6 (Ext.refl _) 0 (by omega)
    have cr := cAt.out w6 (Ext.refl _) r (by omega)
    rw [hzW.out] at c0
    rw [f4.out] at cr
    have e0 : ((r : Int) + 1 != (r : Int) + 1) = false := by simp
    have e1 : (zW != zW) = false := by simp
    have s1 : IntKind.i64.wrap (zA + zB) = zA + zB := IntWalk.i64_in _ (by omega)
    have s2 : IntKind.i64.wrap ((r : Int) + 1) = (r : Int) + 1 := IntWalk.i64_in _ (by omega)
    have s3 : ¬ zA + zB < zW := by omega
    have s4 : (0 : Int) < (r : Int) + 1 := by omega
    have s5 : (r : Int) < (r : Int) + 1 := by omega
    have s6 : 0 < r + 1 := by omega
    clear O6 hO6 f7 g6
    go_wp2_with fail
    go_loopw [17] (fun i wr => ∃ j : Nat, i = .int .i64 (j : Int) ∧ j ≤ r ∧ Ext w6 wr) (fun i _ => r - (intOf i).toNat)
    case atStart => exact ⟨0, rfl, Nat.zero_le _, Ext.refl _⟩
    case round =>
      clear c0 cr
      obtain ⟨j, rfl, hj, hXX⟩ := hrel
      obtain ⟨W, hWW⟩ : ∃ Z, Z = wr := ⟨_, rfl⟩
      subst hWW
      by_cases hlt : j < r
      · have hltI : (j : Int) < (r : Int) := by omega
        have c0 := cAt.out W hXX j (by omega)
        have c9 := cAt.out W hXX (j + 1) (by omega)
        obtain ⟨h1, h2⟩ := f3.out j hlt
        have b1 := cb0.out j (by omega)
        have b2 := cb0.out (j + 1) (by omega)
        obtain ⟨x, hx⟩ : ∃ x, P.getD j 0 = x := ⟨_, rfl⟩
        obtain ⟨y, hy⟩ : ∃ x, P.getD (j + 1) 0 = x := ⟨_, rfl⟩
        rw [hx] at c0 h1 h2 b1
        rw [hy] at c9 h1 b2
        have t1 : decide (y + 9 < x) = false := by simp; omega
        have t2 : decide (x < 3) = false := by simp; omega
        have v1 : IntKind.i64.wrap (y + 9) = y + 9 := IntWalk.i64_in _ (by omega)
        have v2 : IntKind.i64.wrap ((j : Int) + 1) = (j : Int) + 1 := IntWalk.i64_in _ (by omega)
        have l1 : (0 : Int) ≤ (j : Int) := by omega
        have l2 : (j : Int) < (r : Int) + 1 := by omega
        have l3 : (0 : Int) ≤ (j : Int) + 1 := by omega
        have l4 : (j : Int) + 1 < (r : Int) + 1 := by omega
        have l5 : ((j : Int) + 1).toNat = j + 1 := by omega
        clear hx hy h1 h2
        go_wp2_with fail
        go_quiet (fail)
        go_wp2_with fail
        go_round
        case rel => exact ⟨j + 1, by go_num, by omega, hXX.drewN _⟩
        case measure => simp [intOf]; omega
      · have hltI : ¬ (j : Int) < (r : Int) := by omega
        go_wp2_with fail
        refine (haw.out _).mono ?_
        rintro y8 w8 ⟨rfl, g8⟩
        have cn := cAt.out w8 (hXX.trans g8) n (by omega)
        have f2' := f2.out
        obtain ⟨x, hx⟩ : ∃ x, P.getD n 0 = x := ⟨_, rfl⟩
        rw [hx] at cn f2'
        have n1 : (n : Int) < (r : Int) + 1 := by omega
        have X8 := hidden ((x6.out.trans hXX).trans g8)
        clear hx g8
        go_wp2_with fail
        go_ret
        exact ⟨rfl, X8.out⟩
end Go.Proofs.Ytjfdmhdmadnkoaa
