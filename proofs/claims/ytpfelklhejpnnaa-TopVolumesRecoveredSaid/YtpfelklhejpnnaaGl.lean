/- Layer 55: Header. -/
import Derived.Test.YtpfelklhejpnnaaGj
import Derived.Test.YtpfelklhejpnnaaJk
namespace Go.Proofs.Ytpfelklhejpnnaa
open Go.RowKit
set_option linter.unusedVariables false
set_option linter.unusedSimpArgs false
attribute [local go_sem ↓] Go.wp_at_zero Go.wp_at_succ

/-- A header's cells before the set is known. -/
def vK (l : List Int) : List Value := [.int .u32 0, .int .i64 (l.getD 1 0), .int .i64 (l.getD 2 0), .int .i64 (l.getD 3 0), .int .i64 (l.getD 4 0)]
theorem vK_get (l : List Int) (k : Nat) (h : k < 4) : (vK l)[k + 1]? = some (.int .i64 (l.getD (k + 1) 0)) := by
  match k, h with
  | 0, _ => rfl
  | 1, _ => rfl
  | 2, _ => rfl
  | 3, _ => rfl
theorem vK_set (l : List Int) (k : Nat) (h : l.length = k + 1) (hk : k < 4) (x : Int) : (vK l).set (k + 1) (.int .i64 x) = vK (l ++ [x]) := by
  refine List.ext_getElem? fun j => ?_
  by_cases hj : j < 5
  · by_cases h0 : j = 0
    · subst h0; rfl
    · obtain ⟨i, rfl⟩ : ∃ i, j = i + 1 := ⟨j - 1, by omega⟩
      rw [vK_get _ _ (by omega)]
      by_cases e : k = i
      · subst e
        rw [List.getElem?_set_self (by show k + 1 < 5; omega)]
        simp [List.getD, ← h]
      · rw [List.getElem?_set_ne (by omega), vK_get _ _ (by omega)]
        simp only [List.getD]
        by_cases e2 : i + 1 < l.length
        · rw [List.getElem?_append_left e2]
        · rw [List.getElem?_eq_none (by omega), List.getElem?_eq_none (by simp; omega)]
  · rw [List.getElem?_eq_none (by rw [List.length_set]; show 5 ≤ j; omega), List.getElem?_eq_none (by show 5 ≤ j; omega)]
theorem vK_one (x : Int) : vK [x] = vK [] := rfl
/-- The pointers to the fields. -/
def ptrs (q : Nat) : List Value := [.pointer (some ⟨q, 0, none⟩), .pointer (some ⟨q + 1, 1, none⟩), .pointer (some ⟨q + 1, 2, none⟩), .pointer (some ⟨q + 1, 3, none⟩), .pointer (some ⟨q + 1, 4, none⟩)]
theorem ptrs_get (q k : Nat) (h : k < 4) : (ptrs q)[k + 1]? = some (.pointer (some ⟨q + 1, k + 1, none⟩)) := by
  match k, h with
  | 0, _ => rfl
  | 1, _ => rfl
  | 2, _ => rfl
  | 3, _ => rfl
set_option maxRecDepth 100000 in
set_option maxHeartbeats 2000000 in
theorem header_any (v : Value) (D : List Int) (hb : Bytes D) (hn : D.length ≤ 900000) (w : World) (hr : Rd8 w v D) :
    Calls Try.prog 36 #[v] w (HdP w (hdF D)) := by
  have hop := fun W (hX : Ext w W) => open_any v D hb hn W (Rd.ext hr hX)
  have hbo := openF_bytes hb
  have hlo := openF_len D
  have hint := fun (v : Value) S (hb : Bytes S) (hn : S.length ≤ 900000) W (h : Rd8 W v S) => wint_any v S hb hn W h
  have hB1 := Blk.new w (vH z5) 47
  have hX0 : Ext w (w.alloc (.cells (vH z5).toArray 47)) := (Ext.refl w).alloc _
  have hop1 := hop _ hX0
  obtain ⟨ad, cap, rfl, q1, q2, q3⟩ := Rd.shape hr
  obtain ⟨n, hne⟩ : ∃ n, D.length = n := ⟨_, rfl⟩
  rw [hne] at hop1 q1 ⊢
  replace hint := hidden hint
  replace hop1 := hidden hop1
  replace hB1 := hidden hB1
  replace hX0 := hidden hX0
  replace hbo := hidden hbo
  clear hr hop
  go_enter Try.func36, Try.ntmps36
  go_wp2_with fail
  refine hop1.out.mono ?_
  rintro e w1 ⟨v1, rfl, hO1, hX1⟩
  clear hop1
  obtain ⟨g, hg⟩ : ∃ g, w.heap.size = g := ⟨_, rfl⟩
  have hi47 : (Try.prog.info? 47).map (·.size) = some 5 := by kernel_rfl
  have hB2 := hB1.out.ext hX1
  have hX2 := hX0.out.trans hX1
  have hOb := own_mono hO1 (b' := g) (by rw [World.size_alloc, hg]; omega)
  rw [hg] at hB2 ⊢
  replace hg := hidden hg
  clear hX1 hB1 hX0 hO1
  by_cases he : (openF D).1 = 0
  · have hF : hdF D = if (rdN 5 (openF D).2).1 ≠ 0 then ((rdN 5 (openF D).2).1, z5, []) else hd2 (rdN 5 (openF D).2).2.1 (rdN 5 (openF D).2).2.2 := by
      conv => lhs; unfold hdF
      rw [if_neg (by omega)]
    have hnn := nums_nat hbo.out 5
    obtain ⟨T, hT⟩ : ∃ T, (openF D).2 = T := ⟨_, rfl⟩
    rw [hT] at hOb hF hnn hlo hbo
    rw [show (((openF D).1 : Nat) : Int) = 0 by omega]
    obtain ⟨a1, cp1, rfl, s1, s2, -⟩ := own_shape hOb
    obtain ⟨m1, hm1⟩ : ∃ m, T.length = m := ⟨_, rfl⟩
    rw [hm1] at hlo s1 ⊢
    have hO2 : Own8 w1 g (.slice a1 m1 cp1) T := by have := hOb; unfold Own8; rw [hm1] at this ⊢; exact this
    clear hT he hOb
    obtain ⟨q, hq⟩ : ∃ q, w1.heap.size = q := ⟨_, rfl⟩
    have W3X : Ext w1 (((w1.alloc (.cells #[.int .i64 0] 3)).alloc (.cells (vK []).toArray 47)).alloc (.cells (ptrs q).toArray 91)) := (((Ext.refl w1).alloc _).alloc _).alloc _
    have e1 : Blk (((w1.alloc (.cells #[.int .i64 0] 3)).alloc (.cells (vK []).toArray 47)).alloc (.cells (ptrs q).toArray 91)) q 3 [.int .i64 0] := ((blk_newAt' w1 [.int .i64 0] 3 q hq).alloc (.cells (vK []).toArray 47)).alloc (.cells (ptrs q).toArray 91)
    have e2 : Blk (((w1.alloc (.cells #[.int .i64 0] 3)).alloc (.cells (vK []).toArray 47)).alloc (.cells (ptrs q).toArray 91)) (q + 1) 47 (vK []) := (blk_newAt' (w1.alloc (.cells #[.int .i64 0] 3)) (vK []) 47 (q + 1) (by simp [hq])).alloc (.cells (ptrs q).toArray 91)
    have e3 : Blk (((w1.alloc (.cells #[.int .i64 0] 3)).alloc (.cells (vK []).toArray 47)).alloc (.cells (ptrs q).toArray 91)) (q + 1 + 1) 91 (ptrs q) := blk_newAt' ((w1.alloc (.cells #[.int .i64 0] 3)).alloc (.cells (vK []).toArray 47)) (ptrs q) 91 (q + 1 + 1) (by simp [hq])
    have HF := hidden hF
    have HNN := hidden hnn
    clear hF hnn
    go_wp2_with fail
    -- THE LOOP
    obtain ⟨W3, hW3⟩ : ∃ X, ((w1.alloc (.cells #[.int .i64 0] 3)).alloc (.cells (vK []).toArray 47)).alloc (.cells (ptrs q).toArray 91) = X := ⟨_, rfl⟩
    change Blk (((w1.alloc (.cells #[.int .i64 0] 3)).alloc (.cells (vK []).toArray 47)).alloc (.cells (ptrs q).toArray 91)) _ _ _ at e1
    have hB3 := hB2.ext W3X
    have hX3 := hX2.trans W3X
    have hO3 := own_ext hO2 W3X
    rw [hW3] at e1 e2 e3 hB3 hX3 hO3
    rw [show ((w1.alloc (.cells #[.int .i64 0] 3)).alloc (.cells #[.int .u32 0, .int .i64 0, .int .i64 0, .int .i64 0, .int .i64 0] 47)).alloc (.cells #[.pointer (some ⟨q, 0, none⟩), .pointer (some ⟨q + 1, 1, none⟩), .pointer (some ⟨q + 1, 2, none⟩), .pointer (some ⟨q + 1, 3, none⟩), .pointer (some ⟨q + 1, 4, none⟩)] 91) = W3 from hW3]
    have hgq : g < q := by have := hB2.lt; omega
    have h0 : rdN 5 T = rdA [] (rdN 5 T) := (rdA_nil _ (rdN_err 5 T)).symm
    replace h0 := hidden h0
    replace e1 := hidden e1
    replace e2 := hidden e2
    replace e3 := hidden e3
    replace hB3 := hidden hB3
    replace hX3 := hidden hX3
    replace hO3 := hidden hO3
    replace hm1 := hidden hm1
    clear hB2 hX2 hO2 W3X hW3 hq
    go_loopw [5, 6, 26] (fun u er i wr => ∃ (k : Nat) (ns S : List Int) (a : Option Addr) (m c : Nat), i = .int .i64 (k : Int) ∧ k ≤ 5 ∧ u = .slice a m c ∧ m ≤ 900000 ∧ Hid (S.length = m) ∧ Hid (Bytes S) ∧ Hid (ns.length = k) ∧ Hid (rdN 5 T = rdA ns (rdN (5 - k) S)) ∧ Hid (Own8 wr g (.slice a m c) S) ∧ Hid (Blk wr q 3 [.int .i64 (ns.getD 0 0)]) ∧ Hid (Blk wr (q + 1) 47 (vK ns)) ∧ Hid (Blk wr (q + 1 + 1) 91 (ptrs q)) ∧ Hid (Blk wr g 47 (vH z5)) ∧ Hid (Ext w wr)) (fun _ _ i _ => 5 - (intOf i).toNat)
    case atStart => exact ⟨0, [], T, a1, m1, cp1, rfl, by omega, rfl, by omega, hm1, hbo, hidden rfl, h0, hO3, e1, e2, e3, hB3, hX3⟩
    case round =>
      clear e1 e2 e3 hB3 hX3 hO3 h0
      obtain ⟨k, ns, S, av, m, cv, rfl, hk, rfl, hm, hS, hbS, hns, hqq, hO, l1, l2, l3, l4, hX⟩ := hrel
      have v1 : IntKind.i64.wrap ((k : Int) + 1) = (k : Int) + 1 := IntWalk.i64_in _ (by omega)
      obtain ⟨w2, hWW⟩ : ∃ X, X = wr := ⟨_, rfl⟩
      subst hWW
      by_cases hlt : k < 5
      · have hlt2 : (k : Int) < 5 := by omega
        have hc := hint.out _ S hbS.out (by rw [hS.out]; exact hm) w2 (Own8.rd hO.out)
        replace hc := hidden hc
        have hwb := wrd_bytes hbS.out
        have hwl := wrd_len S
        rw [hS.out] at hwl
        have hstep := fun he : (wrd S).1 = 0 => rdA_step (ns := ns) (k := 4 - k) he
        have hbad := fun he : (wrd S).1 ≠ 0 => rdA_bad (ns := ns) (k := 4 - k) he
        rw [show 4 - k + 1 = 5 - k by omega] at hstep hbad
        rw [show 4 - k = 5 - (k + 1) by omega] at hstep
        obtain ⟨⟨er, x, T2⟩, hwe⟩ : ∃ q, wrd S = q := ⟨_, rfl⟩
        rw [hwe] at hc hwb hwl hstep hbad
        dsimp only at hwb hwl hstep hbad
        clear hwe hint
        have HST := hidden hstep
        have HBAD := hidden hbad
        replace hwb := hidden hwb
        clear hstep hbad
        by_cases hk0 : k = 0
        · subst hk0
          have hn0 : ns = [] := List.eq_nil_of_length_eq_zero hns.out
          subst hn0
          have cP2 := l3.out.cell 0 _ rfl
          rw [show ((0 : Nat) : Int) = 0 from rfl] at v1 hlt2 ⊢
          go_wp2_with fail
          refine hc.out.mono ?_
          rintro e w3 ⟨v3, rfl, hO3, hX3⟩
          have hstep := HST.out
          have hbad := HBAD.out
          replace hwb := hwb.out
          replace l1 := l1.out
          replace l2 := l2.out
          replace l3 := l3.out
          replace l4 := l4.out
          have hXn := hX.out.trans hX3
          have hOx := own_mono hO3 hX.out.size
          rw [hg.out] at hOx
          clear HST HBAD hc
          have hn0 : ([] : List Int) ++ [x] = [x] := rfl
          by_cases he : er = 0
          · have hst := hstep he
            subst he
            obtain ⟨a3, c3, rfl, s1, s2, -⟩ := own_shape hO3
            obtain ⟨m3, hm3⟩ : ∃ m, T2.length = m := ⟨_, rfl⟩
            rw [hm3] at hwl s1 ⊢
            have hO4 : Own8 w3 g (.slice a3 m3 c3) T2 := by have := hOx; unfold Own8; unfold Own8 at this; rw [hm3] at this ⊢; exact this
            have hC : Chg [q] w3 (w3.setCell ⟨q, 0, none⟩ (.int .i64 x)) := (Chg.refl _ _).setCell (Or.inl (by simp)) _
            have hnb : (Value.slice a3 m3 c3).ownBlock ≠ some (q) := fun e => by
              have h10 := (own_lt hO3 (by rw [hm3]; exact e)).1
              have := l2.lt
              have := l1.lt
              omega
            have hO5 := own_chg hO4 hC (fun y hy => by simp at hy; subst hy; exact hnb)
            have n1 : Blk (w3.setCell ⟨q, 0, none⟩ (.int .i64 x)) q 3 [.int .i64 ((([] : List Int) ++ [x]).getD 0 0)] := by
              exact (l1.ext hX3).set 0 (.int .i64 x)
            have n2 : Blk (w3.setCell ⟨q, 0, none⟩ (.int .i64 x)) (q + 1) 47 (vK (([] : List Int) ++ [x])) := by
              exact (l2.ext hX3).set_other (by omega) _
            have n3 := (l3.ext hX3).chg hC (by simp <;> omega)
            have n4 := (l4.ext hX3).chg hC (by simp; omega)
            have hXm := hXn.setCell (p := ⟨q, 0, none⟩) (show w.heap.size ≤ q by rw [hg.out]; omega) (.int .i64 x)
            have hns2 : (([] : List Int) ++ [x]).length = 0 + 1 := rfl
            have hqn := hqq.out.trans hst
            have cS := (l1.ext hX3).cell 0 _ rfl
            have fS := (l1.ext hX3).frozen 0
            replace hO5 := hidden hO5
            replace n1 := hidden n1
            replace n2 := hidden n2
            replace n3 := hidden n3
            replace n4 := hidden n4
            replace hXm := hidden hXm
            replace hns2 := hidden hns2
            replace hqn := hidden hqn
            replace hwb := hidden hwb
            replace hm3 := hidden hm3
            have hm9 : m3 ≤ 900000 := by omega
            clear hO3 hOx hstep hbad hst hO4 hC hnb hXn hX3 hqq l1 l2 l3 l4 hX hwl hO cP2
            go_wp2_with fail
            go_roundw
            case rel => exact ⟨0 + 1, ([] : List Int) ++ [x], T2, a3, m3, c3, by go_num, by omega, rfl, hm9, hm3, hwb, hns2, hqn, hO5, n1, n2, n3, n4, hXm⟩
            case measure => simp [intOf]
          · have hst := hbad he
            have hqn := hqq.out.trans hst
            have hFe : hdF D = (er, z5, []) := by rw [HF.out, (show rdN 5 T = (er, [], []) from hqn), if_pos he]
            have e1' : (er == 0) = false := by simp [he]
            have e2' : (er != 0) = true := by simp [he]
            have cS := (l1.ext hX3).cell 0 _ rfl
            have fS := (l1.ext hX3).frozen 0
            have hr2 : (w3.setCell ⟨q, 0, none⟩ (.int .i64 x)).heap[g]? = some (.cells (vH z5).toArray 47 (0, 0)) := (l4.ext hX3).set_other (by omega) _
            have hXm := hXn.setCell (p := ⟨q, 0, none⟩) (show w.heap.size ≤ q by rw [hg.out]; omega) (.int .i64 x)
            replace hFe := hidden hFe
            replace hXm := hidden hXm
            clear hO3 hOx hstep hbad hst hXn hX3 hqq hqn l1 l2 l3 l4 hX hwl hO hwb cP2
            have hrow := setRow_heap (w3.setCell ⟨q, 0, none⟩ (.int .i64 x)) g _ (vH z5).toArray 47 _ hr2
            have hXr : Ext w ((w3.setCell ⟨q, 0, none⟩ (.int .i64 x)).setRow g (vH z5).toArray) := below_setRow (hXm.out) (by rw [hg.out]; exact Nat.le_refl _) _
            replace hXr := hidden hXr
            go_upto_region 11 with fail
            go_wp2_with (refine wpList_store_row rfl 47 (.tmp 2) (.tmp 40) rfl g (vH z5).toArray rfl rfl 47 _ hr2 hi47 rfl (by simp [vH, Value.oneCell']) ?_)
            refine bodyPost_ret (results_row3 (p := 2) (a := 3) (b := 4) (ty := 47) (by kernel_rfl) _ _ g 47 (vH z5).toArray (0, 0) _ rfl hrow Try.underlying47 rfl hi47 _ _ rfl rfl) rfl ?_
            exact ⟨.slice none 0 0, by rw [hFe.out]; rfl, by rw [hFe.out]; exact World.ownsRow_nil _ _ _ _, hXr.out⟩
        · obtain ⟨j, rfl⟩ : ∃ j, k = j + 1 := ⟨k - 1, by omega⟩
          have cP2 := l3.out.cell (j + 1) _ (ptrs_get q j (by omega))
          have ek : ((j + 1 : Nat) : Int) = (j : Int) + 1 := by omega
          rw [ek] at v1 hlt2 ⊢
          go_wp2_with fail
          refine hc.out.mono ?_
          rintro e w3 ⟨v3, rfl, hO3, hX3⟩
          have hstep := HST.out
          have hbad := HBAD.out
          replace hwb := hwb.out
          replace l1 := l1.out
          replace l2 := l2.out
          replace l3 := l3.out
          replace l4 := l4.out
          have hXn := hX.out.trans hX3
          have hOx := own_mono hO3 hX.out.size
          rw [hg.out] at hOx
          clear HST HBAD hc
          by_cases he : er = 0
          · have hst := hstep he
            subst he
            obtain ⟨a3, c3, rfl, s1, s2, -⟩ := own_shape hO3
            obtain ⟨m3, hm3⟩ : ∃ m, T2.length = m := ⟨_, rfl⟩
            rw [hm3] at hwl s1 ⊢
            have hO4 : Own8 w3 g (.slice a3 m3 c3) T2 := by have := hOx; unfold Own8; unfold Own8 at this; rw [hm3] at this ⊢; exact this
            have hC : Chg [q + 1] w3 (w3.setCell ⟨q + 1, j + 1, none⟩ (.int .i64 x)) := (Chg.refl _ _).setCell (Or.inl (by simp)) _
            have hnb : (Value.slice a3 m3 c3).ownBlock ≠ some (q + 1) := fun e => by
              have h10 := (own_lt hO3 (by rw [hm3]; exact e)).1
              have := l2.lt
              have := l1.lt
              omega
            have hO5 := own_chg hO4 hC (fun y hy => by simp at hy; subst hy; exact hnb)
            have n1 : Blk (w3.setCell ⟨q + 1, j + 1, none⟩ (.int .i64 x)) q 3 [.int .i64 ((ns ++ [x]).getD 0 0)] := by
              rw [show (ns ++ [x]).getD 0 0 = ns.getD 0 0 by simp only [List.getD]; rw [List.getElem?_append_left (by have := hns.out; omega)]]
              exact (l1.ext hX3).set_other (by omega) _
            have n2 : Blk (w3.setCell ⟨q + 1, j + 1, none⟩ (.int .i64 x)) (q + 1) 47 (vK (ns ++ [x])) := by
              have := (l2.ext hX3).set (j + 1) (.int .i64 x)
              rw [vK_set ns j hns.out (by omega)] at this
              exact this
            have n3 := (l3.ext hX3).chg hC (by simp <;> omega)
            have n4 := (l4.ext hX3).chg hC (by simp; omega)
            have hXm := hXn.setCell (p := ⟨q + 1, j + 1, none⟩) (show w.heap.size ≤ q + 1 by rw [hg.out]; omega) (.int .i64 x)
            have hns2 : (ns ++ [x]).length = (j + 1) + 1 := by rw [List.length_append, hns.out]; rfl
            have hqn := hqq.out.trans hst
            have cS := (l2.ext hX3).cell (j + 1) _ (vK_get ns j (by omega))
            have fS := (l2.ext hX3).frozen (j + 1)
            replace hO5 := hidden hO5
            replace n1 := hidden n1
            replace n2 := hidden n2
            replace n3 := hidden n3
            replace n4 := hidden n4
            replace hXm := hidden hXm
            replace hns2 := hidden hns2
            replace hqn := hidden hqn
            replace hwb := hidden hwb
            replace hm3 := hidden hm3
            have hm9 : m3 ≤ 900000 := by omega
            clear hO3 hOx hstep hbad hst hO4 hC hnb hXn hX3 hqq l1 l2 l3 l4 hX hwl hO cP2
            go_wp2_with fail
            go_roundw
            case rel => exact ⟨(j + 1) + 1, ns ++ [x], T2, a3, m3, c3, by go_num, by omega, rfl, hm9, hm3, hwb, hns2, hqn, hO5, n1, n2, n3, n4, hXm⟩
            case measure => simp [intOf]; omega
          · have hst := hbad he
            have hqn := hqq.out.trans hst
            have hFe : hdF D = (er, z5, []) := by rw [HF.out, (show rdN 5 T = (er, [], []) from hqn), if_pos he]
            have e1' : (er == 0) = false := by simp [he]
            have e2' : (er != 0) = true := by simp [he]
            have cS := (l2.ext hX3).cell (j + 1) _ (vK_get ns j (by omega))
            have fS := (l2.ext hX3).frozen (j + 1)
            have hr2 : (w3.setCell ⟨q + 1, j + 1, none⟩ (.int .i64 x)).heap[g]? = some (.cells (vH z5).toArray 47 (0, 0)) := (l4.ext hX3).set_other (by omega) _
            have hXm := hXn.setCell (p := ⟨q + 1, j + 1, none⟩) (show w.heap.size ≤ q + 1 by rw [hg.out]; omega) (.int .i64 x)
            replace hFe := hidden hFe
            replace hXm := hidden hXm
            clear hO3 hOx hstep hbad hst hXn hX3 hqq hqn l1 l2 l3 l4 hX hwl hO hwb cP2
            have hrow := setRow_heap (w3.setCell ⟨q + 1, j + 1, none⟩ (.int .i64 x)) g _ (vH z5).toArray 47 _ hr2
            have hXr : Ext w ((w3.setCell ⟨q + 1, j + 1, none⟩ (.int .i64 x)).setRow g (vH z5).toArray) := below_setRow (hXm.out) (by rw [hg.out]; exact Nat.le_refl _) _
            replace hXr := hidden hXr
            go_upto_region 11 with fail
            go_wp2_with (refine wpList_store_row rfl 47 (.tmp 2) (.tmp 40) rfl g (vH z5).toArray rfl rfl 47 _ hr2 hi47 rfl (by simp [vH, Value.oneCell']) ?_)
            refine bodyPost_ret (results_row3 (p := 2) (a := 3) (b := 4) (ty := 47) (by kernel_rfl) _ _ g 47 (vH z5).toArray (0, 0) _ rfl hrow Try.underlying47 rfl hi47 _ _ rfl rfl) rfl ?_
            exact ⟨.slice none 0 0, by rw [hFe.out]; rfl, by rw [hFe.out]; exact World.ownsRow_nil _ _ _ _, hXr.out⟩
      · have hke : k = 5 := by omega
        have hq2 := hqq.out
        have hl5 := hns.out
        rw [hke] at hl5
        rw [hke, show 5 - 5 = 0 from rfl, rdA_done] at hq2
        have hF : hdF D = hd2 ns S := by rw [HF.out, hq2, if_neg (by simp)]
        have hnn := HNN.out
        rw [hq2] at hnn
        dsimp only at hnn
        obtain ⟨a, ha, ha2⟩ := getD_nat hnn 0
        obtain ⟨b, hb2, hb3⟩ := getD_nat hnn 1
        obtain ⟨c, hc2, hc3⟩ := getD_nat hnn 2
        obtain ⟨d, hdd, hd3⟩ := getD_nat hnn 3
        obtain ⟨f, hf2, hf3⟩ := getD_nat hnn 4
        have L1 := l1.out
        have L2 := l2.out
        unfold vK at L2
        rw [ha] at L1
        rw [hb2, hc2, hdd, hf2] at L2
        have d0 := L1.cell 0 _ rfl
        have d1 := L2.cell 1 _ rfl
        have d2 := L2.cell 2 _ rfl
        have d3 := L2.cell 3 _ rfl
        have d4 := L2.cell 4 _ rfl
        have dz := L2.cell 0 _ rfl
        have fz := L2.frozen 0
        unfold hd2 at hF
        rw [ha, hb2, hc2, hdd, hf2, hS.out] at hF
        simp only [Int.toNat_natCast] at hF
        have hvh : (vH ns).toArray = #[.int .u32 (a : Int), .int .i64 (b : Int), .int .i64 (c : Int), .int .i64 (d : Int), .int .i64 (f : Int)] := by unfold vH; rw [ha, hb2, hc2, hdd, hf2]
        have vs : IntKind.i64.wrap ((c : Int) + (d : Int)) = (c : Int) + (d : Int) := IntWalk.i64_in _ (by omega)
        have hr2 : w2.heap[g]? = some (.cells (vH z5).toArray 47 (0, 0)) := l4.out
        have hrow := setRow_heap w2 g _ (vH z5).toArray 47 _ hr2
        have hXr : Ext w (w2.setRow g (vH z5).toArray) := below_setRow hX.out (by rw [hg.out]; exact Nat.le_refl _) _
        have hFb : badN a b c d f → hdF D = (2, z5, []) := fun h => by rw [hF, if_pos h]
        have hFg : ¬ badN a b c d f → hdF D = if m ≠ sizeF f c then (3, z5, []) else (0, ns, S) := fun h => by rw [hF, if_neg h]
        replace hXr := hidden hXr
        replace hFb := hidden hFb
        replace hFg := hidden hFg
        replace hvh := hidden hvh
        replace L2 := hidden L2
        have hk9 : decide ((k : Int) < 5) = false := decide_eq_false (by omega)
        clear hF hnn hq2 hl5 ha hb2 hc2 hdd hf2 HF HNN hint L1 l1 l2 l3 hqq hns v1
        subst hke
        clear hk9
        by_cases p1 : 4294967295 < a
        · have u1 : (4294967295 : Int) < (a : Int) := by omega
          have hF2 := hFb.out (by unfold badN; omega)
          replace hF2 := hidden hF2
          clear hFb hFg
          go_upto_region 14 with fail
          go_wp2_with (refine wpList_store_row rfl 47 (.tmp 2) (.tmp 73) rfl g (vH z5).toArray rfl rfl 47 _ hr2 hi47 rfl (by simp [vH, Value.oneCell']) ?_)
          refine bodyPost_ret (results_row3 (p := 2) (a := 3) (b := 4) (ty := 47) (by kernel_rfl) _ _ g 47 (vH z5).toArray (0, 0) _ rfl hrow Try.underlying47 rfl hi47 _ _ rfl rfl) rfl ?_
          exact ⟨.slice none 0 0, by rw [hF2.out]; rfl, by rw [hF2.out]; exact World.ownsRow_nil _ _ _ _, hXr.out⟩
        have u1 : ¬ (4294967295 : Int) < (a : Int) := by omega
        by_cases p2 : c = 0
        · have u2 : ((c : Int) == 0) = true := by simp [p2]
          have u2' : (c : Int) = 0 := by omega
          have hF2 := hFb.out (by unfold badN; omega)
          replace hF2 := hidden hF2
          clear hFb hFg
          go_upto_region 14 with fail
          go_wp2_with (refine wpList_store_row rfl 47 (.tmp 2) (.tmp 73) rfl g (vH z5).toArray rfl rfl 47 _ hr2 hi47 rfl (by simp [vH, Value.oneCell']) ?_)
          refine bodyPost_ret (results_row3 (p := 2) (a := 3) (b := 4) (ty := 47) (by kernel_rfl) _ _ g 47 (vH z5).toArray (0, 0) _ rfl hrow Try.underlying47 rfl hi47 _ _ rfl rfl) rfl ?_
          exact ⟨.slice none 0 0, by rw [hF2.out]; rfl, by rw [hF2.out]; exact World.ownsRow_nil _ _ _ _, hXr.out⟩
        have u2 : ((c : Int) == 0) = false := by simp; omega
        have u2' : ¬ (c : Int) = 0 := by omega
        by_cases p3 : 64 < c + d
        · have u3 : (64 : Int) < (c : Int) + (d : Int) := by omega
          have hF2 := hFb.out (by unfold badN; omega)
          replace hF2 := hidden hF2
          clear hFb hFg
          go_upto_region 14 with fail
          go_wp2_with (refine wpList_store_row rfl 47 (.tmp 2) (.tmp 73) rfl g (vH z5).toArray rfl rfl 47 _ hr2 hi47 rfl (by simp [vH, Value.oneCell']) ?_)
          refine bodyPost_ret (results_row3 (p := 2) (a := 3) (b := 4) (ty := 47) (by kernel_rfl) _ _ g 47 (vH z5).toArray (0, 0) _ rfl hrow Try.underlying47 rfl hi47 _ _ rfl rfl) rfl ?_
          exact ⟨.slice none 0 0, by rw [hF2.out]; rfl, by rw [hF2.out]; exact World.ownsRow_nil _ _ _ _, hXr.out⟩
        have u3 : ¬ (64 : Int) < (c : Int) + (d : Int) := by omega
        by_cases p4 : c + d ≤ b
        · have u4 : (c : Int) + (d : Int) ≤ (b : Int) := by omega
          have hF2 := hFb.out (by unfold badN; omega)
          replace hF2 := hidden hF2
          clear hFb hFg
          go_upto_region 14 with fail
          go_wp2_with (refine wpList_store_row rfl 47 (.tmp 2) (.tmp 73) rfl g (vH z5).toArray rfl rfl 47 _ hr2 hi47 rfl (by simp [vH, Value.oneCell']) ?_)
          refine bodyPost_ret (results_row3 (p := 2) (a := 3) (b := 4) (ty := 47) (by kernel_rfl) _ _ g 47 (vH z5).toArray (0, 0) _ rfl hrow Try.underlying47 rfl hi47 _ _ rfl rfl) rfl ?_
          exact ⟨.slice none 0 0, by rw [hF2.out]; rfl, by rw [hF2.out]; exact World.ownsRow_nil _ _ _ _, hXr.out⟩
        have u4 : ¬ (c : Int) + (d : Int) ≤ (b : Int) := by omega
        by_cases p5 : 65536 < f
        · have u5 : (65536 : Int) < (f : Int) := by omega
          have hF2 := hFb.out (by unfold badN; omega)
          replace hF2 := hidden hF2
          clear hFb hFg
          go_upto_region 14 with fail
          go_wp2_with (refine wpList_store_row rfl 47 (.tmp 2) (.tmp 73) rfl g (vH z5).toArray rfl rfl 47 _ hr2 hi47 rfl (by simp [vH, Value.oneCell']) ?_)
          refine bodyPost_ret (results_row3 (p := 2) (a := 3) (b := 4) (ty := 47) (by kernel_rfl) _ _ g 47 (vH z5).toArray (0, 0) _ rfl hrow Try.underlying47 rfl hi47 _ _ rfl rfl) rfl ?_
          exact ⟨.slice none 0 0, by rw [hF2.out]; rfl, by rw [hF2.out]; exact World.ownsRow_nil _ _ _ _, hXr.out⟩
        have u5 : ¬ (65536 : Int) < (f : Int) := by omega
        have hF2 := hFg.out (by unfold badN; omega)
        have hsz := size_any f c (by omega) (by omega) (by omega) w2
        obtain ⟨sz, hsze⟩ : ∃ s, sizeF f c = s := ⟨_, rfl⟩
        rw [hsze] at hsz hF2
        replace hsz := hidden hsz
        clear hFb hFg hsze
        have q1' : a ≤ 4294967295 := by omega
        have HF2 := hidden hF2
        clear p1 p2 p3 p4 p5 hF2
        go_upto_region 15 with fail
        clear u1 u2 u2' u3 u4 u5 vs
        have vw : IntKind.u32.wrap (a : Int) = (a : Int) := IntWalk.u32_in _ (by omega)
        by_cases hms : m = sz
        · have hF3 := HF2.out
          rw [if_neg (by omega)] at hF3
          subst hms
          replace hF3 := hidden hF3
          clear HF2
          go_upto_region 17 with (refine hsz.out.mono ?_; rintro e w4 ⟨rfl, hw4⟩; rw [hw4]; clear hw4 w4)
          have hC : Chg [q + 1] w2 (w2.setCell ⟨q + 1, 0, none⟩ (.int .u32 (a : Int))) := (Chg.refl _ _).setCell (Or.inl (by simp)) _
          have L3 : Blk (w2.setCell ⟨q + 1, 0, none⟩ (.int .u32 (a : Int))) (q + 1) 47 [.int .u32 (a : Int), .int .i64 (b : Int), .int .i64 (c : Int), .int .i64 (d : Int), .int .i64 (f : Int)] := L2.out.set 0 (.int .u32 (a : Int))
          have hlr : (w2.setCell ⟨q + 1, 0, none⟩ (.int .u32 (a : Int))).heap[q + 1]? = some (.cells #[.int .u32 (a : Int), .int .i64 (b : Int), .int .i64 (c : Int), .int .i64 (d : Int), .int .i64 (f : Int)] 47 (0, 0)) := L3
          have hr3 : (w2.setCell ⟨q + 1, 0, none⟩ (.int .u32 (a : Int))).heap[g]? = some (.cells (vH z5).toArray 47 (0, 0)) := l4.out.set_other (by omega) _
          have hX9 := hX.out.setCell (p := ⟨q + 1, 0, none⟩) (show w.heap.size ≤ q + 1 by rw [hg.out]; omega) (.int .u32 (a : Int))
          have hnb1 := own_ne_blk hO.out L2.out (by decide)
          have hnb2 := own_ne_blk hO.out (q := g) (t := 47) (cs := vH z5) hr2 (by decide)
          have hO6 := own_chg hO.out hC (fun y hy => by simp at hy; subst hy; exact hnb1)
          have hrow2 := setRow_heap (w2.setCell ⟨q + 1, 0, none⟩ (.int .u32 (a : Int))) g _ #[.int .u32 (a : Int), .int .i64 (b : Int), .int .i64 (c : Int), .int .i64 (d : Int), .int .i64 (f : Int)] 47 _ hr3
          have hXr2 : Ext w ((w2.setCell ⟨q + 1, 0, none⟩ (.int .u32 (a : Int))).setRow g #[.int .u32 (a : Int), .int .i64 (b : Int), .int .i64 (c : Int), .int .i64 (d : Int), .int .i64 (f : Int)]) := below_setRow hX9 (by rw [hg.out]; exact Nat.le_refl _) _
          have hO7 : Own8 ((w2.setCell ⟨q + 1, 0, none⟩ (.int .u32 (a : Int))).setRow g #[.int .u32 (a : Int), .int .i64 (b : Int), .int .i64 (c : Int), .int .i64 (d : Int), .int .i64 (f : Int)]) g (.slice av m cv) S := own_chg hO6 (chg_setRow _ g #[.int .u32 (a : Int), .int .i64 (b : Int), .int .i64 (c : Int), .int .i64 (d : Int), .int .i64 (f : Int)]) (fun y hy => by simp at hy; subst hy; exact hnb2)
          replace hXr2 := hidden hXr2
          replace hO7 := hidden hO7
          clear hnb1 hnb2 hsz hC L3 hO6 hX9
          go_upto_region 18 with fail
          go_wp2_with (first | (refine wpList_load_row rfl 47 (.tmp 8) rfl (q + 1) rfl 47 #[.int .u32 (a : Int), .int .i64 (b : Int), .int .i64 (c : Int), .int .i64 (d : Int), .int .i64 (f : Int)] (0, 0) _ hlr Try.underlying47 rfl hi47 ?_) | (refine wpList_store_row rfl 47 (.tmp 2) (.tmp 86) rfl g #[.int .u32 (a : Int), .int .i64 (b : Int), .int .i64 (c : Int), .int .i64 (d : Int), .int .i64 (f : Int)] rfl rfl 47 _ hr3 hi47 rfl (by simp [Value.oneCell']) ?_))
          refine bodyPost_ret (results_row3 (p := 2) (a := 3) (b := 4) (ty := 47) (by kernel_rfl) _ _ g 47 #[.int .u32 (a : Int), .int .i64 (b : Int), .int .i64 (c : Int), .int .i64 (d : Int), .int .i64 (f : Int)] (0, 0) _ rfl hrow2 Try.underlying47 rfl hi47 _ _ rfl rfl) rfl ?_
          exact ⟨.slice av m cv, by rw [hF3.out, hvh.out]; rfl, by rw [hF3.out, hg.out]; exact hO7.out, hXr2.out⟩
        · have hF3 := HF2.out
          rw [if_pos hms] at hF3
          have hms2 : ¬ (m : Int) = (sz : Int) := by omega
          have hms3 : decide (m = sz) = false := decide_eq_false hms
          replace hF3 := hidden hF3
          clear HF2
          go_upto_region 16 with (refine hsz.out.mono ?_; rintro e w4 ⟨rfl, hw4⟩; rw [hw4]; clear hw4 w4)
          go_wp2_with (refine wpList_store_row rfl 47 (.tmp 2) (.tmp 82) rfl g (vH z5).toArray rfl rfl 47 _ hr2 hi47 rfl (by simp [vH, Value.oneCell']) ?_)
          refine bodyPost_ret (results_row3 (p := 2) (a := 3) (b := 4) (ty := 47) (by kernel_rfl) _ _ g 47 (vH z5).toArray (0, 0) _ rfl hrow Try.underlying47 rfl hi47 _ _ rfl rfl) rfl ?_
          exact ⟨.slice none 0 0, by rw [hF3.out]; rfl, by rw [hF3.out]; exact World.ownsRow_nil _ _ _ _, hXr.out⟩
  · have hF : hdF D = (((openF D).1 : Int), z5, []) := by unfold hdF; rw [if_pos (by omega)]
    have he0 : ((openF D).1 : Int) ≠ 0 := by omega
    obtain ⟨er, hee⟩ : ∃ x, ((openF D).1 : Int) = x := ⟨_, rfl⟩
    rw [hee] at he0 hF ⊢
    have e1 : (er != 0) = true := by simp [he0]
    have e2 : (er == 0) = false := by simp [he0]
    have hr2 : w1.heap[g]? = some (.cells (vH z5).toArray 47 (0, 0)) := hB2
    clear he
    replace hF := hidden hF
    have hrow := setRow_heap (w1) g _ (vH z5).toArray 47 _ hr2
    have hXr : Ext w ((w1).setRow g (vH z5).toArray) := below_setRow (hX2) (by rw [hg.out]; exact Nat.le_refl _) _
    replace hXr := hidden hXr
    go_upto_region 3 with fail
    go_wp2_with (refine wpList_store_row rfl 47 (.tmp 2) (.tmp 18) rfl g (vH z5).toArray rfl rfl 47 _ hr2 hi47 rfl (by simp [vH, Value.oneCell']) ?_)
    refine bodyPost_ret (results_row3 (p := 2) (a := 3) (b := 4) (ty := 47) (by kernel_rfl) _ _ g 47 (vH z5).toArray (0, 0) _ rfl hrow Try.underlying47 rfl hi47 _ _ rfl rfl) rfl ?_
    exact ⟨.slice none 0 0, by rw [hF.out]; rfl, by rw [hF.out]; exact World.ownsRow_nil _ _ _ _, hXr.out⟩
end Go.Proofs.Ytpfelklhejpnnaa

/- Layer 55: put. -/
namespace Go.Proofs.Ytpfelklhejpnnaa
open Go.RowKit
set_option linter.unusedVariables false
set_option linter.unusedSimpArgs false
attribute [local go_sem ↓] Go.wp_at_zero Go.wp_at_succ

def hdB (ns : List Int) : List Int := ns.flatMap fun n => wenc (wnum n)
theorem hdB_snoc (ns : List Int) (n : Int) : hdB (ns ++ [n]) = hdB ns ++ wenc (wnum n) := by simp [hdB]
theorem fur_le8 (n : Int) : (wenc (wnum n)).length ≤ 8 := by
  have h := wnum_bd n
  have := fur_7 _ h.1 h.2
  rw [wenc_len]
  omega
theorem hdB_len (ns : List Int) : (hdB ns).length ≤ 8 * ns.length := by
  induction ns with
  | nil => simp [hdB]
  | cons a ns ih =>
    have h8 := fur_le8 a
    rw [show hdB (a :: ns) = wenc (wnum a) ++ hdB ns from rfl, List.length_append, List.length_cons]
    omega
set_option maxRecDepth 100000 in
set_option maxHeartbeats 2000000 in
theorem put_any (a b c d f : Nat) (ha : a < 4294967296) (vp : Value) (part : List Int) (hb : Bytes (hdB [(a : Int), (b : Int), (c : Int), (d : Int), (f : Int)])) (hpb : Bytes part) (hn : part.length ≤ 90000) (w : World) (hr : Rd8 w vp part) :
    Calls Try.prog 17 #[.agg #[.int .u32 (a : Int), .int .i64 (b : Int), .int .i64 (c : Int), .int .i64 (d : Int), .int .i64 (f : Int)], vp] w (SealP w (volF [(a : Int), (b : Int), (c : Int), (d : Int), (f : Int)] part)) := by
  have hput := fun (v : Value) (D : List Int) (n : Int) (hD : D.length ≤ 900000) W (h : Rd8 W v D) => wputint_any v D n hD W h
  obtain ⟨ns, hns⟩ : ∃ ns, [(a : Int), (b : Int), (c : Int), (d : Int), (f : Int)] = ns := ⟨_, rfl⟩
  have hl5 : ns.length = 5 := by rw [← hns]; rfl
  have hiv : [Value.int .i64 (a : Int), .int .i64 (b : Int), .int .i64 (c : Int), .int .i64 (d : Int), .int .i64 (f : Int)] = ns.map (Value.int .i64) := by rw [← hns]; rfl
  rw [hns] at hb ⊢
  obtain ⟨pa, cp, rfl, q1, q2, q3⟩ := Rd.shape hr
  obtain ⟨m, hm⟩ : ∃ m, part.length = m := ⟨_, rfl⟩
  have hR : Hid (Rd w 1 (.slice pa m cp) m (bs part)) := hidden (by have := hr; unfold Rd8 at this; rw [hm] at this; exact this)
  rw [hm] at q1 hn ⊢
  have vw : IntKind.i64.wrap (a : Int) = (a : Int) := IntWalk.i64_in _ (by omega)
  obtain ⟨g, hg⟩ : ∃ g, w.heap.size = g := ⟨_, rfl⟩
  have hX0 : Ext w ((w.alloc (.cells #[.int .u32 (a : Int), .int .i64 (b : Int), .int .i64 (c : Int), .int .i64 (d : Int), .int .i64 (f : Int)] 47)).alloc (.cells #[.int .i64 (a : Int), .int .i64 (b : Int), .int .i64 (c : Int), .int .i64 (d : Int), .int .i64 (f : Int)] 3)) := ((Ext.refl w).alloc _).alloc _
  have e1 : Blk ((w.alloc (.cells #[.int .u32 (a : Int), .int .i64 (b : Int), .int .i64 (c : Int), .int .i64 (d : Int), .int .i64 (f : Int)] 47)).alloc (.cells #[.int .i64 (a : Int), .int .i64 (b : Int), .int .i64 (c : Int), .int .i64 (d : Int), .int .i64 (f : Int)] 3)) (g + 1) 3 (ns.map (Value.int .i64)) := by
    rw [← hiv]
    exact blk_newAt' (w.alloc (.cells #[.int .u32 (a : Int), .int .i64 (b : Int), .int .i64 (c : Int), .int .i64 (d : Int), .int .i64 (f : Int)] 47)) [.int .i64 (a : Int), .int .i64 (b : Int), .int .i64 (c : Int), .int .i64 (d : Int), .int .i64 (f : Int)] 3 (g + 1) (by simp [hg])
  have hO0 := World.ownsRow_nil ((w.alloc (.cells #[.int .u32 (a : Int), .int .i64 (b : Int), .int .i64 (c : Int), .int .i64 (d : Int), .int .i64 (f : Int)] 47)).alloc (.cells #[.int .i64 (a : Int), .int .i64 (b : Int), .int .i64 (c : Int), .int .i64 (d : Int), .int .i64 (f : Int)] 3)) g 5 1
  obtain ⟨i0, hi, hz0, hz1, hz2⟩ := info_parts u8info
  replace hi := hidden hi
  replace hput := hidden hput
  replace hns := hidden hns
  replace hl5 := hidden hl5
  replace hm := hidden hm
  replace hg := hidden hg
  clear hr hiv
  go_enter Try.func17, Try.ntmps17
  go_wp2_with fail
  rw [hg.out]
  obtain ⟨W1, hW1⟩ : ∃ X, (w.alloc (.cells #[.int .u32 (a : Int), .int .i64 (b : Int), .int .i64 (c : Int), .int .i64 (d : Int), .int .i64 (f : Int)] 47)).alloc (.cells #[.int .i64 (a : Int), .int .i64 (b : Int), .int .i64 (c : Int), .int .i64 (d : Int), .int .i64 (f : Int)] 3) = X := ⟨_, rfl⟩
  rw [hW1] at e1 hX0 hO0 ⊢
  clear hW1
  have hO0' : Own8 W1 g (.slice none 0 0) (hdB (ns.take 0)) := hO0
  replace hO0' := hidden hO0'
  replace e1 := hidden e1
  replace hX0 := hidden hX0
  clear hO0
  go_loopw [5, 21] (fun u i wr => ∃ (k : Nat), i = .int .i64 (k : Int) ∧ k ≤ 5 ∧ Hid (Own8 wr g u (hdB (ns.take k))) ∧ Hid (Blk wr (g + 1) 3 (ns.map (Value.int .i64))) ∧ Hid (Ext w wr)) (fun _ i _ => 5 - (intOf i).toNat)
  case atStart => exact ⟨0, rfl, by omega, hO0', e1, hX0⟩
  case round =>
    clear hO0' e1 hX0
    obtain ⟨k, rfl, hk, hO, e1, hX⟩ := hrel
    have v1 : IntKind.i64.wrap ((k : Int) + 1) = (k : Int) + 1 := IntWalk.i64_in _ (by omega)
    obtain ⟨w2, hWW⟩ : ∃ X, X = wr := ⟨_, rfl⟩
    subst hWW
    have hlen := hdB_len (ns.take k)
    rw [List.length_take, hl5.out] at hlen
    by_cases hlt : k < 5
    · have hlt2 : (k : Int) < 5 := by omega
      obtain ⟨x, hx⟩ : ∃ x, ns[k]? = some x := ⟨_, List.getElem?_eq_getElem (by rw [hl5.out]; exact hlt)⟩
      have cN := e1.out.cell k (.int .i64 x) (by rw [List.getElem?_map, hx]; rfl)
      have hst : hdB (ns.take (k + 1)) = hdB (ns.take k) ++ wenc (wnum x) := by rw [List.take_add_one, hx]; exact hdB_snoc _ _
      obtain ⟨D, hD⟩ : ∃ D, hdB (ns.take k) = D := ⟨_, rfl⟩
      rw [hD] at hst hO hlen
      have hc := hput.out u5 D x (by omega) w2 (Own8.rd hO.out)
      obtain ⟨av, cv, rfl, s1, s2, -⟩ := own_shape hO.out
      replace hc := hidden hc
      replace hst := hidden hst
      clear hx hD
      obtain ⟨LD, hLD⟩ : ∃ n, D.length = n := ⟨_, rfl⟩
      rw [hLD] at hc s1 hlen ⊢
      go_wp2_with fail
      refine hc.out.mono ?_
      rintro e w3 ⟨v3, rfl, hO3, hX3⟩
      have hO4 := own_mono hO3 hX.out.size
      rw [hg.out] at hO4
      have e2 := e1.out.ext hX3
      have hX4 := hX.out.trans hX3
      replace hO4 := hidden hO4
      replace e2 := hidden e2
      replace hX4 := hidden hX4
      clear hc hO3 hX3
      go_wp2_with fail
      go_roundw
      case rel => exact ⟨k + 1, by go_num, by omega, hidden (by rw [hst.out]; exact hO4.out), e2, hX4⟩
      case measure => simp [intOf]; omega
    · have hke : k = 5 := by omega
      have hO2 := hO.out
      rw [hke, List.take_of_length_le (by rw [hl5.out]; exact Nat.le_refl _)] at hO2
      rw [hke] at hlen
      have hlen2 := hdB_len ns
      rw [hl5.out] at hlen2
      obtain ⟨D, hD⟩ : ∃ D, hdB ns = D := ⟨_, rfl⟩
      rw [hD] at hO2 hlen2 hb
      obtain ⟨av, cv, rfl, s1, s2, -⟩ := own_shape hO2
      obtain ⟨LD, hLD⟩ : ∃ n, D.length = n := ⟨_, rfl⟩
      have hO6 : w2.ownsRow g 5 1 (.slice av LD cv) LD (bs D) := by have := hO2; unfold Own8 at this; rw [hLD] at this; exact this
      rw [hLD] at s1 hlen2 ⊢
      have hrp := hR.out.ext hX.out
      have hgs := hX.out.size
      rw [hg.out] at hgs
      have hX5 := hX.out
      replace hO6 := hidden hO6
      replace hrp := hidden hrp
      clear hO hO2 hlen
      have hk9 : decide ((k : Int) < 5) = false := decide_eq_false (by omega)
      go_upto_region 7 with fail
      go_wp2_with (at_builtin; refine wpList_append_rd rfl _ _ 22 rfl g 5 i0 (.int .u8 0) 1 1 Try.underlying22 hi.out hz0 hz1 hz2 rfl (by decide) (.slice av LD cv) LD (bs D) rfl hO6.out pa m cp (bs part) rfl hrp.out (bs_one part) (by unfold maxLen; omega) (by omega) (by omega) ?_; intro v6 w6 hown hgrow hb3)
      have hlb : (D ++ part).length = LD + m := by rw [List.length_append, hLD, hm.out]
      have hO7 : Own8 w6 g v6 (D ++ part) := by unfold Own8; rw [hlb, bs_app]; exact hown
      have hX6 : Ext w w6 := Chg.ext ((Chg.of_ext [] hX5).grown hgrow (fun y hy => Or.inr (by rw [hg.out]; exact (own_lt hO6.out hy).1)))
      have hbb : Bytes (D ++ part) := fun y hy => by
        rcases List.mem_append.1 hy with hy | hy
        · exact hb y hy
        · exact hpb y hy
      have hc := seal_any v6 (D ++ part) hbb (by omega) w6 (Own8.rd hO7)
      rw [show sealF (D ++ part) = volF ns part by unfold volF vbody; rw [← hD]; rfl] at hc
      replace hc := hidden hc
      replace hX6 := hidden hX6
      clear hown hgrow hb3 hO7 hlb hbb
      refine hc.out.mono ?_
      rintro e w7 ⟨v7, rfl, hO7, hX7⟩
      go_wp2_with fail
      go_ret
      exact ⟨v7, rfl, own_mono hO7 hX6.out.size, hX6.out.trans hX7⟩
end Go.Proofs.Ytpfelklhejpnnaa
