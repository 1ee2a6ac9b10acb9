/- The law BitsBytes: the plain part and the walk. -/
import Derived.Test.YtfnlekehcaehkaaBq
namespace Go.Proofs.Ytfnlekehcaehkaa
open Go.RowKit
set_option linter.unusedVariables false
attribute [local go_sem ↓] Go.wp_at_zero Go.wp_at_succ

/-- The bits of bytes. -/
def b8 (l : List Int) : List Int := l.flatMap fun x => low x 8
theorem b8_01 (l : List Int) : Bits01 (b8 l) := by
  intro x hx
  obtain ⟨y, _, hy⟩ := List.mem_flatMap.1 hx
  exact low_01 _ _ x hy
theorem b8_len (l : List Int) : (b8 l).length = 8 * l.length := by
  induction l with
  | nil => rfl
  | cons x l ih =>
    have e : b8 (x :: l) = low x 8 ++ b8 l := rfl
    rw [e, List.length_append, low_len, ih, List.length_cons]; omega
theorem b8_snoc (l : List Int) (x : Int) : b8 (l ++ [x]) = b8 l ++ low x 8 := by simp [b8]
theorem bits_app01 {X Y : List Int} (hX : Bits01 X) (hY : Bits01 Y) : Bits01 (X ++ Y) := by
  intro x hx
  rcases List.mem_append.1 hx with h | h
  · exact hX x h
  · exact hY x h
/-- What stands after the first j bytes, behind k zeros. -/
def bAt (k : Nat) (l : List Int) (j : Nat) : List Int := low 0 k ++ b8 (l.take j)
theorem bAt_01 (k : Nat) (l : List Int) (j : Nat) : Bits01 (bAt k l j) := bits_app01 (low_01 _ _) (b8_01 _)
theorem bAt_len (k : Nat) (l : List Int) (j : Nat) (hj : j ≤ l.length) : (bAt k l j).length = k + 8 * j := by
  unfold bAt
  rw [List.length_append, low_len, b8_len, List.length_take, Nat.min_eq_left hj]
theorem bAt_succ (k : Nat) (l : List Int) (j : Nat) (hj : j < l.length) : bAt k l (j + 1) = bAt k l j ++ low (l.getD j 0) 8 := by
  unfold bAt
  rw [List.take_succ_eq_append_getElem hj, b8_snoc, List.append_assoc]
  simp [List.getD, hj]
theorem app_step (X : List Int) (hX : Bits01 X) (hc : X.length ≤ 5000) (y : Int) (n : Nat) (hn : n ≤ 32) (hy0 : 0 ≤ y) (hy : y < 2 ^ n) :
    appF (pshs [] 0 X) (X.length : Int) y (n : Int) = (0, pshs [] 0 (X ++ low y n), (X ++ low y n).length) := by
  have hwf := WF.pshs WF.nil hX
  rw [Nat.zero_add] at hwf
  unfold appF
  rw [if_neg (by rw [wf_chkb hwf (by omega)]; decide), if_neg (by omega), if_neg (by simp only [Int.toNat_natCast]; omega), if_neg (by omega), pshs_app, Nat.zero_add, List.length_append, low_len]
  simp only [Int.toNat_natCast]
/-- Bytes from their bits. -/
theorem gb_b8 (l : List Int) (hl : Bytes l) (i : Nat) (hi : i < 8 * l.length) : (b8 l).getD i 0 = gb l i := by
  induction l generalizing i with
  | nil => simp at hi
  | cons x l ih =>
    have e : b8 (x :: l) = low x 8 ++ b8 l := rfl
    rw [e]
    rcases Nat.lt_or_ge i 8 with h8 | h8
    · rw [getD_app_l _ _ _ (by rw [low_len]; exact h8)]
      unfold gb
      have e1 : i / 8 = 0 := by omega
      have e2 : i % 8 = i := by omega
      rw [e1, e2]
      simp only [List.getD_cons_zero]
      simp [low, h8, List.getD]
    · have := getD_app_r (low x 8) (b8 l) (i - 8)
      rw [low_len, show 8 + (i - 8) = i by omega] at this
      rw [this, ih (fun y hy => hl y (by simp [hy])) (i - 8) (by simp at hi; omega)]
      unfold gb
      rw [show i / 8 = (i - 8) / 8 + 1 by omega, show (i - 8) % 8 = i % 8 by omega]
      simp
theorem wf_bytes (l : List Int) (hl : Bytes l) : WF l (8 * l.length) := ⟨hl, by omega, fun i h1 h2 => by omega⟩
theorem psh_bytes (l : List Int) (hl : Bytes l) : pshs [] 0 (b8 l) = l := by
  have hwf := WF.pshs WF.nil (b8_01 l)
  rw [Nat.zero_add, b8_len] at hwf
  exact WF.ext hwf (wf_bytes l hl) (fun i hi => by rw [gb_psh0 _ (b8_01 l), gb_b8 l hl i hi])
theorem cut_all (k : Nat) (l : List Int) : cut (pshs [] 0 (bAt k l l.length)) k (8 * l.length) = b8 l := by
  have hb : bAt k l l.length = low 0 k ++ b8 l := by unfold bAt; rw [List.take_length]
  apply List.ext_getElem
  · rw [cut_len, b8_len]
  · intro j j1 j2
    have j3 : j < 8 * l.length := by rw [cut_len] at j1; exact j1
    have e1 := cut_get (pshs [] 0 (bAt k l l.length)) k (8 * l.length) j j3
    rw [gb_psh0 _ (bAt_01 k l l.length), hb] at e1
    have e2 := getD_app_r (low 0 k) (b8 l) j
    rw [low_len] at e2
    rw [e2] at e1
    have e3 : (cut (pshs [] 0 (bAt k l l.length)) k (8 * l.length)).getD j 0 = (b8 l).getD j 0 := by rw [hb]; exact e1
    simp only [List.getD, List.getElem?_eq_getElem j1, List.getElem?_eq_getElem j2, Option.getD_some] at e3
    exact e3
theorem slice_all (k : Nat) (l : List Int) (hl : Bytes l) : pshs [] 0 (cut (pshs [] 0 (bAt k l l.length)) k (8 * l.length)) = l := by
  rw [cut_all, psh_bytes l hl]

set_option maxHeartbeats 1000000 in
theorem BitsBytes_law (v : Value) (l : List Int) (n : Int) (hb : Bytes l) (hn0 : 0 ≤ n) (hn1 : n ≤ 255) (w : World) (h : Rd8 w v l) :
    Calls Try.prog 6 #[v, .int .u8 n] w fun x w' => x = .returned (.bool true) ∧ Ext w w' := by
  obtain ⟨a, cap, rfl, h1, h2, h3⟩ := Rd.shape h
  by_cases hlen : 40 < l.length
  · have hlt : (40 : Int) < (l.length : Int) := by omega
    go_enter Try.func6, Try.ntmps6
    go_wp2_with fail
    refine (awake_any _).mono ?_
    rintro e w1 ⟨rfl, g1⟩
    go_wp2_with fail
    go_ret
    exact ⟨rfl, g1⟩
  · have hlt : ¬ (40 : Int) < (l.length : Int) := by omega
    have hl : l.length ≤ 40 := by omega
    obtain ⟨k, hk, hk8⟩ : ∃ k : Nat, n % 9 = (k : Int) ∧ k ≤ 8 := ⟨(n % 9).toNat, by omega, by omega⟩
    have hkt : n.tmod 9 = (k : Int) := by rw [Int.tmod_eq_emod_of_nonneg hn0]; exact hk
    have hA0 : appF [] 0 0 (k : Int) = (0, pshs [] 0 (bAt k l 0), (bAt k l 0).length) := by
      have := app_step [] (fun x hx => by cases hx) (by simp) 0 k (by omega) (by omega) (pow2_pos k)
      simpa [bAt, b8, pshs] using this
    have hA1 : ∀ j, j < l.length → appF (pshs [] 0 (bAt k l j)) ((bAt k l j).length : Int) (l.getD j 0) 8 = (0, pshs [] 0 (bAt k l (j + 1)), (bAt k l (j + 1)).length) := by
      intro j hj
      have hx : 0 ≤ l.getD j 0 ∧ l.getD j 0 ≤ 255 := by
        simp only [List.getD, hj, List.getElem?_eq_getElem, Option.getD_some]
        exact hb _ (List.getElem_mem hj)
      have := app_step (bAt k l j) (bAt_01 k l j) (by rw [bAt_len k l j (by omega)]; omega) (l.getD j 0) 8 (by omega) hx.1 (by omega)
      rw [bAt_succ k l j hj]
      exact this
    have hA0 := hidden hA0
    have hA1 := hidden hA1
    have hkn := hidden hk
    clear hk
    go_enter Try.func6, Try.ntmps6
    go_wp2_with fail
    refine (append_any _ [] 0 0 (k : Int) by_nil (by simp) (by omega) (by omega) (by omega) (by omega) (by omega) (by omega) _ (Rd8.nil _)).mono ?_
    rw [hA0.out]
    rintro e w1 ⟨a1, k1, rfl, R1, F1, E1⟩
    have R1 : Rd8 w1 (.slice a1 (pshs [] 0 (bAt k l 0)).length k1) (pshs [] 0 (bAt k l 0)) := R1
    have hws := E1.size
    obtain ⟨X0, hX0⟩ : ∃ X, pshs [] 0 (bAt k l 0) = X := ⟨_, rfl⟩
    obtain ⟨c0, hc0⟩ : ∃ c, (bAt k l 0).length = c := ⟨_, rfl⟩
    rw [hX0] at R1
    have hX0 := hidden hX0
    have hc0 := hidden hc0
    rw [hX0.out, hc0.out]
    have C1 := Blk.new w1 [.slice a1 X0.length k1, .int .i64 (c0 : Int)] 24
    have E1' := E1.alloc (.cells #[.slice a1 X0.length k1, .int .i64 (c0 : Int)] 24)
    have R1' := Rd.alloc R1 (.cells #[.slice a1 X0.length k1, .int .i64 (c0 : Int)] 24)
    have O1 : 0 < X0.length → (Value.slice a1 X0.length k1).ownBlock ≠ some w1.heap.size := by
      intro hn
      obtain ⟨pb, po, rfl, hpb⟩ := Rd8.some R1 hn
      simp [Value.ownBlock]
      omega
    have O1 := hidden O1
    obtain ⟨q, hq⟩ : ∃ q, w1.heap.size = q := ⟨_, rfl⟩
    have hqw : w.heap.size ≤ q := by omega
    rw [hq] at C1 O1
    go_wp2_with fail
    go_loopw [29] (fun i wr => ∃ (j : Nat) (v3 : Value), j ≤ l.length ∧ i = .int .i64 j ∧ Blk wr q 24 [v3, .int .i64 ((bAt k l j).length : Int)] ∧ Rd8 wr v3 (pshs [] 0 (bAt k l j)) ∧ Ext w wr) (fun i _ => (l.length - intOf i).toNat)
    case atStart => exact ⟨0, _, by omega, rfl, by rw [hc0.out]; exact C1, by rw [hX0.out]; exact R1', E1'⟩
    case round =>
      obtain ⟨j, v3, hj, rfl, hB, hR, hE⟩ := hrel
      have hq' := hidden hq
      clear hq
      obtain ⟨a3, k3, rfl, s1, s2, s3⟩ := Rd.shape hR
      have hcl := bAt_len k l j hj
      have hby : Bytes (pshs [] 0 (bAt k l j)) := (WF.pshs WF.nil (bAt_01 k l j)).bytes
      have hdl : (pshs [] 0 (bAt k l j)).length ≤ 200 := by
        have h1 := pshs_len WF.nil (bAt_01 k l j)
        have h3 : (pshs [] 0 (bAt k l j)).length = (0 + (bAt k l j).length + 7) / 8 := h1
        omega
      by_cases hlt : j < l.length
      · have hlt' : (j : Int) < (l.length : Int) := by omega
        obtain ⟨pb, po, rfl, -⟩ := Rd8.some h (by omega)
        have x1 := Rd8.at h j hlt
        have hxu : 0 ≤ l.getD j 0 ∧ l.getD j 0 ≤ 255 := by
          simp only [List.getD, hlt, List.getElem?_eq_getElem, Option.getD_some]
          exact hb _ (List.getElem_mem hlt)
        have hg := hA1.out j hlt
        have hcl2 := bAt_len k l (j + 1) (by omega)
        obtain ⟨x, hx⟩ : ∃ x, l.getD j 0 = x := ⟨_, rfl⟩
        rw [hx] at x1 hxu hg
        obtain ⟨D, hD⟩ : ∃ d, pshs [] 0 (bAt k l j) = d := ⟨_, rfl⟩
        obtain ⟨D2, hD2⟩ : ∃ d, pshs [] 0 (bAt k l (j + 1)) = d := ⟨_, rfl⟩
        rw [hD] at hB hR hg hdl hby
        rw [hD2] at hg
        obtain ⟨c, hc⟩ : ∃ c, (bAt k l j).length = c := ⟨_, rfl⟩
        obtain ⟨c2, hc2⟩ : ∃ c, (bAt k l (j + 1)).length = c := ⟨_, rfl⟩
        rw [hc] at hB hg hcl
        rw [hc2] at hg hcl2
        have y1 := hE.cell x1
        obtain ⟨u0, u1⟩ := hxu
        have d0 := hB.cell 0 _ rfl
        have d1 := hB.cell 1 _ rfl
        have HG := hidden hg
        have HD := hidden hD
        have HD2 := hidden hD2
        have HC := hidden hc
        have HC2 := hidden hc2
        have HX := hidden hx
        have hcb : c ≤ 400 := by omega
        have hcb2 : c2 ≤ 400 := by omega
        clear hg hx hD hD2 hc hc2 x1 hcl hcl2
        go_wp2_with fail
        refine (append_any _ D c x 8 hby (by omega) (by omega) (by omega) (by omega) (by omega) (by omega) (by omega) _ hR).mono ?_
        rw [HG.out]
        rintro e w5 ⟨a5, k5, rfl, R5, F5, g5⟩
        have R5 : Rd8 w5 (.slice a5 D2.length k5) D2 := R5
        have v0 := (hB.ext g5).cell 0 _ rfl
        have v1 := (hB.ext g5).cell 1 _ rfl
        have v2 := (hB.ext g5).frozen 0
        have v3' := (hB.ext g5).frozen 1
        have hqlt := hB.lt
        go_wp2_with fail
        go_roundw
        case rel =>
          have hC := ((Chg.refl [q] w5).setCell (p := ⟨q, 0, none⟩) (Or.inl (by simp)) (.slice a5 D2.length k5)).setCell (p := ⟨q, 1, none⟩) (Or.inl (by simp)) (.int .i64 (c2 : Int))
          refine ⟨j + 1, .slice a5 D2.length k5, by omega, by go_num, ?_, ?_, ((hE.trans g5).setCell (p := ⟨q, 0, none⟩) hqw _).setCell (p := ⟨q, 1, none⟩) hqw _⟩
          · rw [HC2.out]; exact ((hB.ext g5).set 0 _).set 1 _
          · rw [HD2.out]; exact Rd.chg R5 hC (fun x hx hn => by rw [List.mem_singleton.1 hx]; exact F5 _ hqlt)
        case measure => simp [intOf]; omega
      · obtain rfl : j = l.length := by omega
        have hge : ¬ (l.length : Int) < (l.length : Int) := by omega
        have hwf := WF.pshs WF.nil (bAt_01 k l l.length)
        rw [Nat.zero_add] at hwf
        have hsl := slice_all k l hb
        obtain ⟨D, hD⟩ : ∃ d, pshs [] 0 (bAt k l l.length) = d := ⟨_, rfl⟩
        obtain ⟨c, hc⟩ : ∃ c, (bAt k l l.length).length = c := ⟨_, rfl⟩
        rw [hD] at hB hR hdl hby hwf hsl
        rw [hc] at hB hcl hwf
        have S1 := slice_good (.slice a3 D.length k3) D c k c hby hwf (by omega) (by omega) (by omega) wr hR
        rw [show c - k = 8 * l.length by omega, hsl] at S1
        have S1 := hidden S1
        have HD := hidden hD
        have HC := hidden hc
        have d0 := hB.cell 0 _ rfl
        have d1 := hB.cell 1 _ rfl
        have hrl := Rd.ext h hE
        have hcb : c ≤ 400 := by omega
        clear hD hc hsl hcl
        go_wp2_with fail
        refine S1.out.mono ?_
        rintro e w5 ⟨a5, k5, rfl, R5, F5, g5⟩
        have R5 : Rd8 w5 (.slice a5 l.length k5) l := R5
        have z8 : ((8 * l.length : Nat) : Int) = 8 * (l.length : Int) := by omega
        have z9 := IntWalk.i64_in (n := 8 * (l.length : Int)) (by omega)
        have N5 := Blk.new w5 [.slice a5 l.length k5, .int .i64 (8 * (l.length : Int))] 24
        have e0 := N5.cell 0 _ rfl
        have e1 := N5.cell 1 _ rfl
        have R6 := Rd.alloc R5 (.cells #[.slice a5 l.length k5, .int .i64 (8 * (l.length : Int))] 24)
        have R7 := Rd.alloc (Rd.ext hrl g5) (.cells #[.slice a5 l.length k5, .int .i64 (8 * (l.length : Int))] 24)
        go_wp2_with fail
        refine (same_any _ _ l l _ R6 R7).mono ?_
        rintro e w6 ⟨rfl, g6⟩
        have f1 := (N5.ext g6).cell 1 _ rfl
        have hEE : Ext w w6 := (hE.trans g5).trans g6.past
        go_wp2_with fail
        refine (awake_any _).mono ?_
        rintro e w7 ⟨rfl, E7⟩
        go_wp2_with fail
        go_ret
        exact ⟨rfl, hEE.trans E7⟩
end Go.Proofs.Ytfnlekehcaehkaa
