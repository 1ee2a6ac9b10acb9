/- Layer 18: FlowLeadsBack. -/
import Derived.Test.YtcnbljohhajkhaaWs
import Derived.Test.YtcnbljohhajkhaaWn
namespace Go.Proofs.Ytcnbljohhajkhaa
open Go.RowKit
set_option linter.unusedVariables false
set_option linter.unusedSimpArgs false
attribute [local go_sem ↓] Go.wp_at_zero Go.wp_at_succ

theorem pairR_err (C : List (Int × Int)) (h : (pairR C).2 ≠ 0) : (pairR C).1 = [] := by
  unfold pairR at h ⊢
  split
  next hl =>
    rw [if_pos hl] at h
    split
    · rfl
    next hw => rw [hw] at h; simp at h
  · rfl
theorem pairR_ok (C : List (Int × Int)) (h : (pairR C).2 = 0) : C.length ≤ 1024 ∧ (pairR C).1.length = C.length ∧ ∀ q, q < C.length → LB C (pairR C).1 q := by
  unfold pairR at h ⊢
  split at h
  next hl =>
    rw [if_pos hl]
    split at h
    · simp at h
    next t P hw =>
      have := leads_law C hl (t, P) hw
      exact ⟨hl, this⟩
  · simp at h
set_option maxHeartbeats 4000000 in
set_option maxRecDepth 100000 in
theorem leadsback_any (hL : ∀ C f, ListOK C f) (v : Value) (C : List (Int × Int)) (w : World) (h : Code18 w v C) :
    Calls Try.prog 6 #[v] w fun x w' => x = .returned (.bool true) ∧ Ext w w' := by
  have hf := few_any v C w h
  have haw := hidden (awake_any hL)
  have HC := hidden h
  have hp := hidden (pair_any hL v C w h)
  obtain ⟨a, cap, rfl, hcap, -⟩ := Rd.shape h
  obtain ⟨n, hn⟩ : ∃ n, C.length = n := ⟨_, rfl⟩
  rw [hn] at HC hp hf hcap ⊢
  clear h
  go_enter Try.func6, Try.ntmps6
  by_cases hfew : n ≤ 100 ∨ 1024 < n ∧ n < 1033
  · rw [show decide (n ≤ 100 ∨ 1024 < n ∧ n < 1033) = true from decide_eq_true hfew] at hf
    replace hf := hidden hf
    clear hfew
    go_wp2_with fail
    refine hf.out.mono ?_
    rintro e w1 ⟨rfl, hw1⟩
    rw [hw1]
    clear hw1
    go_wp2_with fail
    refine hp.out.mono ?_
    rintro x w2 ⟨vp, rfl, hO, hX⟩
    have HC2 := hidden (HC.out.ext hX)
    have hX2 := hidden hX
    have hlaw := pairR_ok C
    have herr := pairR_err C
    generalize pairR C = pr at hO hlaw herr ⊢
    obtain ⟨P, e⟩ := pr
    simp only at hO hlaw herr ⊢
    clear hf hp hX
    by_cases he : e = 0
    · subst he
      obtain ⟨g1, g2, g3⟩ := hlaw rfl
      have HP2 := hidden (OwnI.rd hO)
      obtain ⟨ap, cp, rfl, -⟩ := own_shape (show w2.ownsRow _ _ _ _ _ _ from hO)
      rw [g2, hn] at HP2 ⊢
      rw [hn] at g1 g2 g3
      replace g2 := hidden g2
      replace g3 := hidden g3
      replace hn := hidden hn
      clear hO hlaw herr
      go_wp2_with fail
      go_loopw [33] (fun ix wr => ∃ (k : Nat), k ≤ n ∧ ix = .int .i64 (k : Int) ∧ Hid (Ext w2 wr)) (fun ix _ => (n - intOf ix).toNat)
      case atStart => exact ⟨0, by omega, rfl, Ext.refl w2⟩
      case round =>
        obtain ⟨k, hk, rfl, hX⟩ := hrel
        obtain ⟨W, hWW⟩ : ∃ Z, Z = wr := ⟨_, rfl⟩
        subst hWW
        by_cases hlt : k < n
        · have hlt' : (k : Int) < (n : Int) := by omega
          obtain ⟨b, off, rfl, -, -⟩ := Rd.cells (cs := C.flatMap icell) (w := w2) (sz := 2) (by have := HC2.out; unfold Code18 at this; rw [hn.out] at this; exact this) (show 0 < n by omega)
          obtain ⟨bp, op', rfl, -, -⟩ := (show Rd w2 1 (.slice ap n cp) n (P.map (Value.int .i64)) by have := HP2.out; unfold RdI at this; rw [g2.out] at this; exact this).cells (by omega)
          obtain ⟨x0, x1⟩ := code_at2 HC2.out k (by rw [hn.out]; exact hlt)
          replace x0 := hX.out.cell x0
          replace x1 := hX.out.cell x1
          have hlb := g3.out k hlt
          unfold LB at hlb
          have hol : opAt C k = (C.getD k (0, 0)).1 := rfl
          rw [hol] at hlb
          generalize C.getD k (0, 0) = c at x0 x1 hlb
          obtain ⟨u, z⟩ := c
          simp only at x0 x1 hlb
          have hkw : IntKind.i64.wrap ((k : Int) + 1) = (k : Int) + 1 := IntWalk.i64_in _ (by omega)
          have X1 := (Ext.refl W).alloc (.cells #[.int .i64 u, .int .u32 z] 45)
          have N1 := Blk.new W [.int .i64 u, .int .u32 z] 45
          obtain ⟨q, hq⟩ : ∃ q, W.heap.size = q := ⟨_, rfl⟩
          rw [hq] at N1
          obtain ⟨W1, hW1⟩ : ∃ W1, W.alloc (.cells #[.int .i64 u, .int .u32 z] 45) = W1 := ⟨_, rfl⟩
          rw [hW1] at X1 N1
          have HX1 := hX.out.trans X1
          have c0 := N1.cell 0 _ rfl
          have hpc : ∀ j, j < n → W1.cell? ⟨bp, op' + j, none⟩ = some (.int .i64 (P.getD j 0)) := fun j hj => HX1.cell (RdI.at HP2.out j (by rw [g2.out]; exact hj))
          have hcc : ∀ j, j < n → W1.cell? ⟨b, off + j * 2, none⟩ = some (.int .i64 (opAt C j)) := fun j hj => HX1.cell (code_at HC2.out j (by rw [hn.out]; exact hj)).1
          have pk := hpc k hlt
          replace HX1 := hidden HX1
          replace hq := hidden hq
          replace hW1 := hidden hW1
          clear N1 X1
          go_upto_region 11 with fail
          rw [hW1.out, hq.out]
          by_cases h4 : u = 27 ∨ u = 28 ∨ u = 29 ∨ u = 30
          · rw [if_pos h4] at hlb
            obtain ⟨nn, en, pe, l1, l2, l3, l4, l5, l6, l7, l8, l9, l10⟩ := hlb
            rw [hn.out] at l3 l5
            rw [l1] at pk
            have cn := hcc nn l3
            have pn := hpc nn l3
            have ce := hcc en l5
            have pE := hpc en l5
            have cpe := hcc pe (by omega)
            rw [l6] at ce
            rw [l7] at pE
            have q1 : decide ((nn : Int) ≤ (k : Int)) = false := by simp; omega
            have q2 : decide ((n : Int) ≤ (nn : Int)) = false := by simp; omega
            have q3 : decide ((n : Int) ≤ (en : Int)) = false := by simp; omega
            have q4 : decide ((k : Int) < (pe : Int)) = false := by simp; omega
            have q5 : (nn : Int) < (n : Int) := by omega
            have q6 : (en : Int) < (n : Int) := by omega
            have q7 : (pe : Int) < (n : Int) := by omega
            clear hpc hcc l1 l7 l6 x0 x1
            rcases l4 with ⟨l4, rfl⟩ | ⟨h27, l4, l4'⟩
            · rw [l4] at cn
              clear pn ce
              rcases h4 with rfl | rfl | rfl | rfl
              · obtain rfl := l10 (Or.inr rfl)
                clear l9 l10 cpe
                go_wp2_with fail
                go_roundw
                case rel => exact ⟨pe + 1, by omega, by go_num, HX1⟩
                case measure => simp [intOf]; omega
              · clear l9 l10 cpe
                go_wp2_with fail
                go_roundw
                case rel => exact ⟨k + 1, by omega, by go_num, HX1⟩
                case measure => simp [intOf]; omega
              · obtain rfl := l10 (Or.inl rfl)
                clear l9 l10 cpe
                go_wp2_with fail
                go_roundw
                case rel => exact ⟨pe + 1, by omega, by go_num, HX1⟩
                case measure => simp [intOf]; omega
              · rw [l9 rfl] at cpe
                clear l9 l10
                go_wp2_with fail
                go_roundw
                case rel => exact ⟨k + 1, by omega, by go_num, HX1⟩
                case measure => simp [intOf]; omega
            · subst h27
              rw [l4] at cn
              rw [l4'] at pn
              obtain rfl := l10 (Or.inr rfl)
              clear l9 l10 cpe h4 l4'
              go_wp2_with fail
              go_roundw
              case rel => exact ⟨pe + 1, by omega, by go_num, HX1⟩
              case measure => simp [intOf]; omega
          · rw [if_neg h4] at hlb
            by_cases h31 : u = 31
            · subst h31
              rw [if_pos rfl] at hlb
              obtain ⟨nn, l1, l2, l3⟩ := hlb
              rw [l1] at pk
              have cn := hcc nn (by omega)
              have q1 : decide ((k : Int) ≤ (nn : Int)) = false := by simp; omega
              have q5 : (nn : Int) < (n : Int) := by omega
              clear hpc hcc l1 x0 x1
              rcases l3 with l3 | l3
              · rw [l3] at cn
                go_wp2_with fail
                go_roundw
                case rel => exact ⟨k + 1, by omega, by go_num, HX1⟩
                case measure => simp [intOf]; omega
              · rw [l3] at cn
                go_wp2_with fail
                go_roundw
                case rel => exact ⟨k + 1, by omega, by go_num, HX1⟩
                case measure => simp [intOf]; omega
            · rw [if_neg h31] at hlb
              rw [hlb] at pk
              have q1 : (u == 27) = false := by simp; omega
              have q2 : (u == 28) = false := by simp; omega
              have q3 : (u == 29) = false := by simp; omega
              have q4 : (u == 30) = false := by simp; omega
              have q5 : (u == 31) = false := by simp; omega
              clear hpc hcc hlb x0 x1
              go_wp2_with fail
              go_roundw
              case rel => exact ⟨k + 1, by omega, by go_num, HX1⟩
              case measure => simp [intOf]; omega
        · obtain rfl : k = n := by omega
          have hX3 := hidden (hX2.out.trans hX.out)
          go_wp2_with fail
          refine (haw.out W).mono ?_
          rintro x w9 ⟨rfl, hX9⟩
          have hX10 := hidden (hX3.out.trans hX9)
          clear hX9
          go_wp2_with fail
          go_ret
          exact ⟨rfl, hX10.out⟩
    · have he' : (e != 0) = true := by simp; exact he
      have ht := herr he
      subst ht
      obtain ⟨ap, cp, rfl, -⟩ := own_shape (show w2.ownsRow _ _ _ _ _ _ from hO)
      rw [show ([] : List Int).length = 0 from rfl]
      clear hO hlaw herr
      go_wp2_with fail
      refine (haw.out w2).mono ?_
      rintro x w9 ⟨rfl, hX⟩
      have hX9 := hidden (hX2.out.trans hX)
      go_wp2_with fail
      go_ret
      exact ⟨rfl, hX9.out⟩
  · rw [show decide (n ≤ 100 ∨ 1024 < n ∧ n < 1033) = false from decide_eq_false hfew] at hf
    replace hf := hidden hf
    clear hfew hp
    go_wp2_with fail
    refine hf.out.mono ?_
    rintro e w1 ⟨rfl, hw1⟩
    rw [hw1]
    clear hw1
    go_wp2_with fail
    refine (haw.out w).mono ?_
    rintro x w9 ⟨rfl, hX⟩
    replace hX := hidden hX
    go_wp2_with fail
    go_ret
    exact ⟨rfl, hX.out⟩
end Go.Proofs.Ytcnbljohhajkhaa
