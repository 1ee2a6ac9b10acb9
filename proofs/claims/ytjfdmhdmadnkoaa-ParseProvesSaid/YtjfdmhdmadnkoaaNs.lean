/- Layer 36: the statement ParseProves. -/
import Derived.Test.YtjfdmhdmadnkoaaNo
import Derived.Test.YtjfdmhdmadnkoaaHs
namespace Go.Proofs.Ytjfdmhdmadnkoaa
open Go.RowKit
set_option linter.unusedVariables false
attribute [local go_sem ↓] Go.wp_at_zero Go.wp_at_succ

def RdI1 (w : World) (v : Value) (l : List Int) : Prop := Rd w 1 v l.length (l.map (Value.int .i8))
theorem RdI1.some {w : World} {a : Option Addr} {n cap : Nat} {l : List Int} (h : RdI1 w (.slice a n cap) l) (hn : 0 < l.length) : ∃ b off, a = Option.some ⟨b, off, none⟩ ∧ b < w.heap.size := by
  obtain ⟨_, a', cap', h2, _, _, _, h6⟩ := h
  simp only [Value.slice.injEq] at h2
  obtain ⟨rfl, -, rfl⟩ := h2
  obtain ⟨b', off', e, hb, -⟩ := h6 hn
  exact ⟨b', off', e, hb⟩
theorem RdI1.at {w : World} {b off n cap : Nat} {l : List Int} (h : RdI1 w (.slice (Option.some ⟨b, off, none⟩) n cap) l) (i : Nat) (hi : i < l.length) : w.cell? ⟨b, off + i, none⟩ = Option.some (.int .i8 (l.getD i 0)) := by
  obtain ⟨_, a', cap', h2, _, _, _, h6⟩ := h
  simp only [Value.slice.injEq] at h2
  obtain ⟨rfl, -, rfl⟩ := h2
  obtain ⟨b', off', e, -, hc⟩ := h6 (by omega)
  simp only [Option.some.injEq, Addr.mk.injEq, and_true] at e
  obtain ⟨rfl, rfl⟩ := e
  rw [hc i (by simpa using hi)]
  simp [List.getD, hi]
/-- Numbers that have been changed by so many small ones. -/
def Nr (Q : List Int) (j : Nat) : Prop := ∀ x ∈ Q, -(128 * (j : Int)) ≤ x ∧ x ≤ 10000 + 128 * (j : Int)
theorem Nr.step {Q : List Int} {j : Nat} (h : Nr Q j) (i : Nat) (z : Int) (hz0 : -128 ≤ z) (hz1 : z ≤ 127) (hi : i < Q.length) : Nr (Q.set i (Q.getD i 0 + z)) (j + 1) := fun x hx => by
  have e : Q.getD i 0 = Q[i] := by simp [List.getD, hi]
  have h0 := h _ (List.getElem_mem hi)
  rw [← e] at h0
  rcases List.mem_or_eq_of_mem_set hx with hx | rfl
  · have := h x hx; omega
  · omega
theorem Nr.get {Q : List Int} {j i : Nat} (h : Nr Q j) (hi : i < Q.length) : -(128 * (j : Int)) ≤ Q.getD i 0 ∧ Q.getD i 0 ≤ 10000 + 128 * (j : Int) := by
  have e : Q.getD i 0 = Q[i] := by simp [List.getD, hi]
  rw [e]; exact h _ (List.getElem_mem hi)

set_option maxRecDepth 100000 in
set_option maxHeartbeats 16000000 in
theorem ParseProves_law (v : Value) (D : List Int) (vn : Value) (N : List Int) (vc : Value) (Ch : List Int) (hb : Bytes D) (hbN : Bytes N) (hCh : ∀ z ∈ Ch, -128 ≤ z ∧ z ≤ 127) (w : World) (h : Rd8 w v D) (hN : Rd8 w vn N) (hc : RdI1 w vc Ch) :
    Calls Try.prog 6 #[v, vn, vc] w fun x w' => x = .returned (.bool true) ∧ Ext w w' := by
  have haw := hidden pawake_any
  obtain ⟨a, cap, rfl, q1, q2, q3⟩ := Rd.shape h
  obtain ⟨b, dap, rfl, p1, p2, p3⟩ := Rd.shape hN
  obtain ⟨c, ec, rfl, o1, o2, o3⟩ := Rd.shape hc
  by_cases k : 120 < D.length
  · obtain ⟨n, hn⟩ : ∃ n, D.length = n := ⟨_, rfl⟩
    rw [hn] at k q1 ⊢
    clear h hb hn hN hbN hc hCh
    go_enter Try.func6, Try.ntmps6
    go_wp2_with fail
    refine (haw.out _).mono ?_
    rintro e1 w1 ⟨rfl, g1⟩
    go_wp2_with fail
    go_ret
    exact ⟨rfl, g1⟩
  · have c1 := popt_any (.slice a D.length cap) D hb (by omega) w h
    rw [show optE D = (0, opF D, (poF D).getD 0 0) by unfold optE; rw [if_neg (by omega)]] at c1
    have c2 := fun W hW => ppot_any (.slice a D.length cap) D hb (by omega) W hW
    rw [show potE D = (0, poF D) by unfold potE; rw [if_neg (by omega)]] at c2
    obtain ⟨-, hok, hln, -, -, -⟩ := fac_all hb (by omega) (opF_fac hb)
    have hpl : (poF D).length = D.length + 1 := poF_len D
    have c3 := fun u vp P (hP : P.length ≤ 1000000) W hW hT hQ => pcert_any (.slice a D.length cap) u vp D P (opF D) hb hok (by omega) hP W hW hT hQ
    have hC1 : cerF D (opF D) (poF D) = 0 := cer_opt hb (by omega)
    have hC2 : ∀ Q, cerF D (opF D) Q = 0 → Q.getD 0 0 = (poF D).getD 0 0 := fun Q hq => (cer_any hb (by omega) (opF_fac hb) hq).2
    have c4 := fun W hW hQ => other_any (.slice a D.length cap) (.slice b N.length dap) D N hb hbN (by omega) W hW hQ
    have hother : ∀ l, Fac D 0 l → (∀ u vp P (hP : P.length ≤ 1000000) W, Rd8 W (.slice a D.length cap) D → Toks W u l → RdI W vp P → Calls Try.prog 21 #[.slice a D.length cap, u, vp] W fun x w' => x = .returned (.int .i64 (cerF D l P)) ∧ Ext W w') ∧
        (∀ u W, Toks W u l → Calls Try.prog 19 #[u] W fun x w' => x = .returned (.tuple #[.int .i64 (sumP l), .int .i64 0]) ∧ Ext W w') ∧
        cerF D l (poF D) = (if sumP l = (poF D).getD 0 0 then 0 else 23) ∧ (∀ Q, cerF D l Q = 0 → sumP l = (poF D).getD 0 0) := fun l hl => by
      obtain ⟨-, h1, -, -, -, h2⟩ := fac_all hb (by omega) hl
      refine ⟨fun u vp P hP W hW hT hQ => pcert_any (.slice a D.length cap) u vp D P l hb h1 (by omega) hP W hW hT hQ, fun u W hT => ?_, cer_po hb (by omega) hl, fun Q hq => (cer_any hb (by omega) hl hq).1⟩
      have := pcost_any u l h1 W hT
      rw [h2] at this
      exact this
    have hNr : Nr (poF D) 0 := fun x hx => by have := poW_bd D D.length x hx; omega
    obtain ⟨z, hz⟩ : ∃ z, (poF D).getD 0 0 = z := ⟨_, rfl⟩
    rw [hz] at c1
    simp only [hz] at hC2 hother
    obtain ⟨l, hl⟩ : ∃ l, opF D = l := ⟨_, rfl⟩
    obtain ⟨P, hPP⟩ : ∃ P, poF D = P := ⟨_, rfl⟩
    rw [hl] at c1 c3 hC1 hC2
    rw [hPP] at c2 hpl hC1 hNr
    simp only [hPP] at hother
    obtain ⟨n, hn⟩ : ∃ n, D.length = n := ⟨_, rfl⟩
    obtain ⟨r0, hr0⟩ : ∃ n, N.length = n := ⟨_, rfl⟩
    obtain ⟨r, hr⟩ : ∃ n, Ch.length = n := ⟨_, rfl⟩
    have H : Hid (Rd8 w (.slice a n cap) D) := hidden (by rw [← hn]; exact h)
    have HN : Hid (Rd8 w (.slice b r0 dap) N) := hidden (by rw [← hr0]; exact hN)
    have HC : Hid (RdI1 w (.slice c r ec) Ch) := hidden (by rw [← hr]; exact hc)
    rw [hn] at k q1 c1 c2 c3 c4 hpl ⊢
    simp only [hn] at hother
    rw [hr0] at p1 c4 ⊢
    rw [hr] at o1 ⊢
    have hpl' : Hid (P.length = n + 1) := hidden hpl
    replace c1 := hidden c1
    replace c2 := hidden c2
    replace c3 := hidden c3
    replace c4 := hidden c4
    replace hC1 := hidden hC1
    replace hC2 := hidden hC2
    replace hother := hidden hother
    replace hNr := hidden hNr
    replace hr := hidden hr
    replace hCh := hidden hCh
    have hn1 : IntKind.i64.wrap ((n : Int) + 1) = (n : Int) + 1 := IntWalk.i64_in _ (by omega)
    have e5 : ((n : Int) + 1 != (n : Int) + 1) = false := by simp
    obtain ⟨i1, hi, hz0, hz1, hz2⟩ := info_parts intinfo
    clear h hb hN hbN hn hr0 hl hz hok hln hPP hpl hc
    go_enter Try.func6, Try.ntmps6
    go_wp2_with fail
    refine c1.out.mono ?_
    rintro x1 w1 he
    obtain ⟨v1, rfl, O1, g1⟩ := he
    obtain ⟨a1, d1, rfl, -, -, -⟩ := Rd.shape O1.toks
    have T1 : Hid (Toks w1 (.slice a1 l.length d1) l) := hidden O1.toks
    have X1 := hidden g1
    clear O1 g1
    go_wp2_with fail
    refine (c2.out _ (Rd.ext H.out X1.out)).mono ?_
    rintro x2 w2 he
    obtain ⟨v2, rfl, O2, g2⟩ := he
    simp only at O2
    obtain ⟨a2, d2, rfl, -, -, -⟩ := Rd.shape O2.rd
    have P2' := O2.rd
    rw [hpl'.out] at P2'
    rw [hpl'.out]
    have P2 : Hid (RdI w2 (.slice a2 (n + 1) d2) P) := hidden P2'
    have T2 : Hid (Toks w2 (.slice a1 l.length d1) l) := hidden (Rd.ext T1.out g2)
    have X2 := hidden (X1.out.trans g2)
    clear O2 g2 T1 X1 P2'
    go_wp2_with fail
    refine (c3.out _ _ P (by rw [hpl'.out]; omega) _ (Rd.ext H.out X2.out) T2.out P2.out).mono ?_
    rw [hC1.out]
    rintro x3 w3 ⟨rfl, g3⟩
    have P3 : Hid (RdI w3 (.slice a2 (n + 1) d2) P) := hidden (RdI.ext P2.out g3)
    have T3 : Hid (Toks w3 (.slice a1 l.length d1) l) := hidden (Rd.ext T2.out g3)
    have X3 := hidden (X2.out.trans g3)
    clear g3 T2 X2 P2
    have P3' : Hid (Rd (w3.alloc (.cells #[] 3)) 1 (.slice a2 (n + 1) d2) (n + 1) (P.map (Value.int .i64))) := hidden (by have := Rd.alloc P3.out (.cells #[] 3); rw [hpl'.out] at this; exact this)
    have Z3 := hidden (own_zero w3 3 1)
    have hone : Hid (∀ u ∈ P.map (Value.int .i64), u.oneCell' = true) := hidden (fun u hu => by obtain ⟨x, -, rfl⟩ := List.mem_map.1 hu; rfl)
    go_wp2_with (at_builtin; refine wpList_append_rd (by rfl) _ _ 32 (by rfl) w3.heap.size 3 i1 (.int .i64 0) 1 8 Try.underlying32 hi hz0 hz1 hz2 rfl (by decide) (.slice (some ⟨w3.heap.size, 0, none⟩) 0 0) 0 [] (by rfl) Z3.out a2 (n + 1) d2 (P.map (Value.int .i64)) (by rfl) P3'.out hone.out (by unfold maxLen; omega) (by omega) (by simp) ?_; rw [Nat.zero_add, List.nil_append]; intro v4 w4 hO4 hg4 _; obtain ⟨aq, cq, rfl, -, -, f4⟩ := own_shape hO4; obtain ⟨gq, rfl, f5, f6⟩ := f4 (by omega); have hOh := hidden hO4; clear hO4 f4)
    have X4 : Ext w w4 := ((((Chg.of_ext [] X3.out).alloc (.cells #[] 3)).grown hg4 (fun k hk => Or.inr (by simp [Value.ownBlock] at hk; have := X3.out.size; omega)))).ext
    have Y4 : Ext w3 w4 := ((((Chg.of_ext [] (Ext.refl w3)).alloc (.cells #[] 3)).grown hg4 (fun k hk => Or.inr (by simp [Value.ownBlock] at hk; omega)))).ext
    have O4 : Hid (OwnI w4 w3.heap.size (.slice (some ⟨gq, 0, none⟩) (n + 1) cq) P) := hidden (by unfold OwnI; rw [hpl'.out]; exact hOh.out)
    replace X4 := hidden X4
    replace Y4 := hidden Y4
    clear hg4 hOh Z3 P3'
    go_loopw [13] (fun i wr => ∃ (j : Nat) (Q : List Int), i = .int .i64 (j : Int) ∧ j ≤ n + 1 ∧ Hid (Q.length = n + 1) ∧ Hid (Nr Q j) ∧ Hid (OwnI wr w3.heap.size (.slice (some ⟨gq, 0, none⟩) (n + 1) cq) Q) ∧ Ext w3 wr) (fun i _ => n + 1 - (intOf i).toNat)
    case atStart => exact ⟨0, P, rfl, by omega, hpl', hNr, O4, Y4.out⟩
    case round =>
      clear O4
      obtain ⟨j, Q, rfl, hj, hQl, hQn, hO, hX⟩ := hrel
      obtain ⟨W, hWW⟩ : ∃ Z, Z = wr := ⟨_, rfl⟩
      subst hWW
      have hXW := hidden (X3.out.trans hX)
      by_cases hlt : j < n + 1 ∧ j < r
      · obtain ⟨hj1, hj2⟩ := hlt
        have hj1I : (j : Int) < (n : Int) + 1 := by omega
        have hj2I : (j : Int) < (r : Int) := by omega
        obtain ⟨cb, co, hcb, -⟩ := RdI1.some HC.out (by rw [hr.out]; omega)
        subst hcb
        have cY := RdI1.at (Rd.ext HC.out hXW.out : RdI1 W _ _) j (by rw [hr.out]; exact hj2)
        have hym : Ch.getD j 0 ∈ Ch := by
          have hjr : j < Ch.length := by rw [hr.out]; exact hj2
          rw [show Ch.getD j 0 = Ch[j] by simp [List.getD, hjr]]; exact List.getElem_mem hjr
        have hyb := hCh.out _ hym
        have cX := OwnI.at hO.out j (by rw [hQl.out]; exact hj1)
        have fX := OwnI.fr hO.out j
        have hxb := Nr.get hQn.out (i := j) (by rw [hQl.out]; exact hj1)
        have hstep := Nr.step hQn.out j (Ch.getD j 0) hyb.1 hyb.2 (by rw [hQl.out]; exact hj1)
        obtain ⟨y, hy⟩ : ∃ y, Ch.getD j 0 = y := ⟨_, rfl⟩
        obtain ⟨x, hx⟩ : ∃ y, Q.getD j 0 = y := ⟨_, rfl⟩
        rw [hy] at cY hyb hstep
        rw [hx] at cX hxb hstep
        have hO2 := OwnI.set hO.out j (x + y)
        have gql : w3.heap.size ≤ gq := by have := (own_lt hO.out rfl).1; exact this
        have v1 : IntKind.i64.wrap (x + y) = x + y := IntWalk.i64_in _ (by omega)
        have v2 : IntKind.i64.wrap y = y := IntWalk.i64_in _ (by omega)
        replace hstep := hidden hstep
        replace hO2 := hidden hO2
        clear hy hx hym
        go_wp2_with fail
        rename_i KK hKK
        refine wp_region_held_drew (S := fun _ => True) (by kernel_rfl) trivial (fun hS1 => ?_)
        refine takeH 0 (.slice (some ⟨gq, 0, none⟩) (n + 1) cq) rfl rfl (by kernel_rfl) (by kernel_rfl) (by kernel_rfl) (fun _ _ _ h => h) (by rfl) (fun w' hw' => by go_simp) hS1 ?_
        simp only [List.setIfInBounds_toArray, List.set_cons_zero, List.set_cons_succ]
        refine takeH 1 (.int .i64 (j : Int)) rfl rfl (by kernel_rfl) (by kernel_rfl) (by kernel_rfl) (fun _ _ _ h => h) (by rfl) (fun w' hw' => by go_simp) hS1 ?_
        simp only [List.setIfInBounds_toArray, List.set_cons_zero, List.set_cons_succ]
        refine takeH 2 (.pointer (some ⟨gq, j, none⟩)) rfl rfl (by kernel_rfl) (by kernel_rfl) (by kernel_rfl) (fun _ _ _ h => h) (by rfl) (fun w' hw' => by go_simp) hS1 ?_
        simp only [List.setIfInBounds_toArray, List.set_cons_zero, List.set_cons_succ]
        refine takeH 4 (.slice (some ⟨cb, co, none⟩) r ec) rfl rfl (by kernel_rfl) (by kernel_rfl) (by kernel_rfl) (fun _ _ _ h => h) (by rfl) (fun w' hw' => by go_simp) hS1 ?_
        simp only [List.setIfInBounds_toArray, List.set_cons_zero, List.set_cons_succ]
        refine takeH 5 (.int .i64 (j : Int)) rfl rfl (by kernel_rfl) (by kernel_rfl) (by kernel_rfl) (fun _ _ _ h => h) (by rfl) (fun w' hw' => by go_simp) hS1 ?_
        simp only [List.setIfInBounds_toArray, List.set_cons_zero, List.set_cons_succ]
        refine takeH 6 (.pointer (some ⟨cb, co + j, none⟩)) rfl rfl (by kernel_rfl) (by kernel_rfl) (by kernel_rfl) (fun _ _ _ h => h) (by rfl) (fun w' hw' => by go_simp) hS1 ?_
        simp only [List.setIfInBounds_toArray, List.set_cons_zero, List.set_cons_succ]
        refine wpAnyH_all (rs := [3, 7]) (by kernel_rfl) (by simp) ?_
        intro i hi
        rcases List.mem_cons.1 hi with rfl | hi
        ·
          refine wpOp_value 3 (.int .i64 x) rfl rfl (by rfl) (w' := W.drew) (by go_simp) ⟨trivial, ?_⟩
          simp only [List.setIfInBounds_toArray, List.set_cons_zero, List.set_cons_succ]
          refine wpAnyH_all (rs := [7]) (by kernel_rfl) (by simp) ?_
          intro i hi
          obtain rfl : i = 7 := by simpa using hi
          refine wpOp_value 7 (.int .i8 y) rfl rfl (by rfl) (w' := W.drew) (by go_simp) ⟨trivial, ?_⟩
          simp only [List.setIfInBounds_toArray, List.set_cons_zero, List.set_cons_succ]
          refine takeH 8 (.int .i64 y) rfl rfl (by kernel_rfl) (by kernel_rfl) (by kernel_rfl) (fun _ _ _ h => h) (by rfl) (fun w' hw' => by go_simp) trivial ?_
          simp only [List.setIfInBounds_toArray, List.set_cons_zero, List.set_cons_succ]
          refine takeH 9 (.int .i64 (x + y)) rfl rfl (by kernel_rfl) (by kernel_rfl) (by kernel_rfl) (fun _ _ _ h => h) (by rfl) (fun w' hw' => by go_simp) trivial ?_
          simp only [List.setIfInBounds_toArray, List.set_cons_zero, List.set_cons_succ]
          refine takeH 10 (.pointer (some ⟨gq, j, none⟩)) rfl rfl (by kernel_rfl) (by kernel_rfl) (by kernel_rfl) (fun _ _ _ h => h) (by rfl) (fun w' hw' => by go_simp) trivial ?_
          simp only [List.setIfInBounds_toArray, List.set_cons_zero, List.set_cons_succ]
          refine storeH 11 (w' := W.drew.setCell ⟨gq, j, none⟩ (.int .i64 (x + y))) rfl rfl (by kernel_rfl) (by rfl) (by go_simp) trivial ?_
          refine wpAnyH_done (by kernel_rfl) ?_ _
          show KK _ _
          refine hKK _ _ ?_
          go_wp2_with fail
          go_round
          case rel => exact ⟨j + 1, Q.set j (x + y), by go_num, by omega, hidden (by rw [List.length_set]; exact hQl.out), hstep, hidden (own_ext hO2.out ((Ext.refl _).drew)), (hX.setCell (p := ⟨gq, j, none⟩) gql _).drew⟩
          case measure => simp [intOf]; omega
        · obtain rfl : i = 7 := by simpa using hi
          refine wpOp_value 7 (.int .i8 y) rfl rfl (by rfl) (w' := W.drew) (by go_simp) ⟨trivial, ?_⟩
          simp only [List.setIfInBounds_toArray, List.set_cons_zero, List.set_cons_succ]
          refine takeH 8 (.int .i64 y) rfl rfl (by kernel_rfl) (by kernel_rfl) (by kernel_rfl) (fun _ _ _ h => h) (by rfl) (fun w' hw' => by go_simp) trivial ?_
          simp only [List.setIfInBounds_toArray, List.set_cons_zero, List.set_cons_succ]
          refine wpAnyH_all (rs := [3]) (by kernel_rfl) (by simp) ?_
          intro i hi
          obtain rfl : i = 3 := by simpa using hi
          refine wpOp_value 3 (.int .i64 x) rfl rfl (by rfl) (w' := W.drew) (by go_simp) ⟨trivial, ?_⟩
          simp only [List.setIfInBounds_toArray, List.set_cons_zero, List.set_cons_succ]
          refine takeH 9 (.int .i64 (x + y)) rfl rfl (by kernel_rfl) (by kernel_rfl) (by kernel_rfl) (fun _ _ _ h => h) (by rfl) (fun w' hw' => by go_simp) trivial ?_
          simp only [List.setIfInBounds_toArray, List.set_cons_zero, List.set_cons_succ]
          refine takeH 10 (.pointer (some ⟨gq, j, none⟩)) rfl rfl (by kernel_rfl) (by kernel_rfl) (by kernel_rfl) (fun _ _ _ h => h) (by rfl) (fun w' hw' => by go_simp) trivial ?_
          simp only [List.setIfInBounds_toArray, List.set_cons_zero, List.set_cons_succ]
          refine storeH 11 (w' := W.drew.setCell ⟨gq, j, none⟩ (.int .i64 (x + y))) rfl rfl (by kernel_rfl) (by rfl) (by go_simp) trivial ?_
          refine wpAnyH_done (by kernel_rfl) ?_ _
          show KK _ _
          refine hKK _ _ ?_
          go_wp2_with fail
          go_round
          case rel => exact ⟨j + 1, Q.set j (x + y), by go_num, by omega, hidden (by rw [List.length_set]; exact hQl.out), hstep, hidden (own_ext hO2.out ((Ext.refl _).drew)), (hX.setCell (p := ⟨gq, j, none⟩) gql _).drew⟩
          case measure => simp [intOf]; omega
      · have hsp : ¬ j < n + 1 ∨ (j < n + 1 ∧ ¬ j < r) := by omega
        clear hlt
        have hO0 := OwnI.at hO.out 0 (by rw [hQl.out]; omega)
        have hC2q := hC2.out Q
        obtain ⟨C2, hc2⟩ : ∃ x, cerF D l Q = x := ⟨_, rfl⟩
        have cc2 := c3.out (.slice a1 l.length d1) (.slice (some ⟨gq, 0, none⟩) (n + 1) cq) Q (by rw [hQl.out]; omega) W (Rd.ext H.out hXW.out) (Rd.ext T3.out hX) (hO.out.rd)
        obtain ⟨y0, hy0⟩ : ∃ y, Q.getD 0 0 = y := ⟨_, rfl⟩
        rw [hc2] at hC2q cc2
        rw [hy0] at hO0 hC2q
        have hA : ((C2 == 0) = true ∧ (y0 != z) = false) ∨ (C2 == 0) = false := by
          by_cases e : C2 = 0
          · left; exact ⟨by simp [e], by simp [hC2q e]⟩
          · right; simp [e]
        have QR : Hid (RdI W (.slice (some ⟨gq, 0, none⟩) (n + 1) cq) Q) := hidden hO.out.rd
        have PW : Hid (RdI W (.slice a2 (n + 1) d2) P) := hidden (RdI.ext P3.out hX)
        replace cc2 := hidden cc2
        replace hO0 := hidden hO0
        have n0 : (0 : Int) < (n : Int) + 1 := by omega
        have n00 : 0 < n + 1 := by omega
        replace hc2 := hidden hc2
        clear hy0 hC2q P3 T3 X3
        rcases hsp with hs1 | ⟨hs1, hs2⟩
        all_goals
          (try have hs1I : ¬ (j : Int) < (n : Int) + 1 := by omega)
          (try have hs1J : (j : Int) < (n : Int) + 1 := by omega)
          rcases hA with ⟨hA1, hA2⟩ | hA1
          all_goals
            go_wp2_with fail
            refine cc2.out.mono ?_
            rintro x5 w5 ⟨rfl, g5⟩
            have y5 := g5.cell hO0.out
            have X5 := hidden (hXW.out.trans g5)
            have Q5 : Hid (RdI w5 (.slice (some ⟨gq, 0, none⟩) (n + 1) cq) Q) := hidden (RdI.ext QR.out g5)
            have P5 : Hid (RdI w5 (.slice a2 (n + 1) d2) P) := hidden (RdI.ext PW.out g5)
            go_wp2_with fail
            refine (c4.out _ (Rd.ext H.out X5.out) (Rd.ext HN.out X5.out)).mono ?_
            rintro x6 w6 he
            obtain ⟨v6, lo, rfl, O6, f6, g6⟩ := he
            obtain ⟨u1, u2, u3, u4⟩ := hother.out lo f6
            have u4q := u4 Q
            obtain ⟨C4, hc4⟩ : ∃ x, cerF D lo Q = x := ⟨_, rfl⟩
            obtain ⟨C3, hc3⟩ : ∃ x, cerF D lo P = x := ⟨_, rfl⟩
            have k3 := fun u W hW hT hQ => u1 u (.slice a2 (n + 1) d2) P (by rw [hpl'.out]; omega) W hW hT hQ
            have k4 := fun u W hW hT hQ => u1 u (.slice (some ⟨gq, 0, none⟩) (n + 1) cq) Q (by rw [hQl.out]; omega) W hW hT hQ
            rw [hc3] at u3
            rw [hc4] at u4q
            simp only [hc3] at k3
            simp only [hc4] at k4
            obtain ⟨s, hs⟩ : ∃ s, sumP lo = s := ⟨_, rfl⟩
            rw [hs] at u3 u4q
            rw [hs] at u2
            have hB : ((C3 == 0) = true ∧ (s == z) = true ∧ (C4 != 0) = true) ∨ ((C3 == 0) = true ∧ (s == z) = true ∧ (C4 != 0) = false) ∨ ((C3 == 0) = false ∧ (s == z) = false ∧ (C4 != 0) = true) := by
              by_cases e : s = z
              · rw [if_pos e] at u3
                by_cases e4 : C4 = 0
                · right; left; exact ⟨by simp [u3], by simp [e], by simp [e4]⟩
                · left; exact ⟨by simp [u3], by simp [e], by simp [e4]⟩
              · rw [if_neg e] at u3
                have e4 : C4 ≠ 0 := fun h4 => e (u4q h4)
                right; right; exact ⟨by simp [u3], by simp [e], by simp [e4]⟩
            obtain ⟨a6, d6, rfl, -, -, -⟩ := Rd.shape O6.toks
            have T6 : Hid (Toks w6 (.slice a6 lo.length d6) lo) := hidden O6.toks
            have X6 := hidden (X5.out.trans g6)
            have Q6 : Hid (RdI w6 (.slice (some ⟨gq, 0, none⟩) (n + 1) cq) Q) := hidden (RdI.ext Q5.out g6)
            have P6 : Hid (RdI w6 (.slice a2 (n + 1) d2) P) := hidden (RdI.ext P5.out g6)
            replace u2 := hidden u2
            replace k3 := hidden k3
            replace k4 := hidden k4
            replace hc3 := hidden hc3
            replace hc4 := hidden hc4
            replace hs := hidden hs
            clear u1 u3 u4 u4q O6 f6 g6 Q5 P5 X5 y5
            rcases hB with ⟨hb1, hb2, hb3⟩ | ⟨hb1, hb2, hb3⟩ | ⟨hb1, hb2, hb3⟩
            all_goals
              go_wp2_with fail
              refine (u2.out _ _ T6.out).mono ?_
              rintro x7 w7 ⟨rfl, g7⟩
              have X7 := hidden (X6.out.trans g7)
              have T7 := hidden (Rd.ext T6.out g7 : Toks w7 (.slice a6 lo.length d6) lo)
              have Q7 := hidden (RdI.ext Q6.out g7)
              have P7 := hidden (RdI.ext P6.out g7)
              clear g7
              go_wp2_with fail
              refine (haw.out _).mono ?_
              rintro x8 w8 ⟨rfl, g8⟩
              have X8 := hidden (X7.out.trans g8)
              have T8 := hidden (Rd.ext T7.out g8 : Toks w8 (.slice a6 lo.length d6) lo)
              have Q8 := hidden (RdI.ext Q7.out g8)
              have P8 := hidden (RdI.ext P7.out g8)
              clear g8
              go_wp2_with fail
              refine (k3.out _ _ (Rd.ext H.out X8.out) T8.out P8.out).mono ?_
              rintro x9 w9 ⟨rfl, g9⟩
              have X9 := hidden (X8.out.trans g9)
              have T9 := hidden (Rd.ext T8.out g9 : Toks w9 (.slice a6 lo.length d6) lo)
              have Q9 := hidden (RdI.ext Q8.out g9)
              clear g9
              go_wp2_with fail
              refine (k4.out _ _ (Rd.ext H.out X9.out) T9.out Q9.out).mono ?_
              rintro x10 w10 ⟨rfl, g10⟩
              have X10 := hidden (X9.out.trans g10)
              clear g10
              go_wp2_with fail
              go_ret
              exact ⟨rfl, X10.out⟩
end Go.Proofs.Ytjfdmhdmadnkoaa
