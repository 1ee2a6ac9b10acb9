/- The reference of layer 2: PutInt, rest. -/
import Derived.Test.YtchkbidekmaaiaaJz
import Derived.Test.YtchkbidekmaaiaaJi2
import Derived.Test.YtchkbidekmaaiaaMb
namespace Go.Proofs.Ytchkbidekmaaiaa
open Go.RowKit
set_option linter.unusedVariables false
attribute [local go_sem ↓] Go.wp_at_zero Go.wp_at_succ

theorem rrest_any (v : Value) (l : List Int) (hl : l.length ≤ 900000) (w : World) (h : Rd8 w v l) :
    Calls Try.prog 74 #[v] w fun x w' => ∃ v', x = .returned v' ∧ Own8 w' w.heap.size v' l ∧ Ext w w' := by
  obtain ⟨a, cap, rfl, h1, h2, h3⟩ := Rd.shape h
  obtain ⟨i0, hi, hz0, hz1, hz2⟩ := info_parts u8info
  have hnil := World.ownsRow_nil w w.heap.size 5 1
  have H := hidden h
  clear h
  go_enter Try.func74, Try.ntmps74
  go_wp2_with (at_builtin; refine wpList_append_rd rfl _ _ 34 rfl w.heap.size 5 i0 (.int .u8 0) 1 1 Try.underlying34 hi hz0 hz1 hz2 rfl (by decide) (.slice none 0 0) 0 [] rfl hnil a l.length cap (bs l) rfl H.out (bs_one l) (by unfold maxLen; omega) (by omega) (by simp) ?_; intro v1 w1 hown hgrow hb)
  go_ret
  rw [Nat.zero_add, List.nil_append] at hown
  exact ⟨v1, rfl, hown, ((Chg.refl [] w).grown hgrow (fun k hk => by simp [Value.ownBlock] at hk)).ext⟩
theorem wtail_snoc (m : Int) (k j : Nat) (hj : j < k) : (wtail m k).take (j + 1) = (wtail m k).take j ++ [m / 2 ^ (8 * (k - 1 - j)) % 256] := by
  induction k generalizing j with
  | zero => omega
  | succ k ih =>
    cases j with
    | zero => simp [wtail]
    | succ j =>
      show (_ :: _).take (j + 1 + 1) = (_ :: _).take (j + 1) ++ _
      rw [List.take_succ_cons, List.take_succ_cons, ih j (by omega)]
      rw [show k + 1 - 1 - (j + 1) = k - 1 - j by omega]
      rfl
set_option maxHeartbeats 2000000 in
set_option maxRecDepth 100000 in
theorem rputint_any (v : Value) (D : List Int) (n : Int) (hD : D.length ≤ 900000) (w : World) (h : Rd8 w v D) :
    Calls Try.prog 37 #[v, .int .i64 n] w fun x w' => ∃ v', x = .returned v' ∧ Own8 w' w.heap.size v' (D ++ wenc (wnum n)) ∧ Ext w w' := by
  obtain ⟨a, cap, rfl, h1, h2, h3⟩ := Rd.shape h
  obtain ⟨i0, hi, hz0, hz1, hz2⟩ := info_parts u8info
  have hnil := World.ownsRow_nil w w.heap.size 5 1
  have hnum := rnumber_any n
  have hb := wnum_bd n
  obtain ⟨m, hm⟩ : ∃ m, wnum n = m := ⟨_, rfl⟩
  rw [hm] at hnum hb
  rw [hm]
  have hsz := rsize_any m
  rw [wnum_id hb.1 hb.2] at hsz
  have h7 := fur_7 m hb.1 hb.2
  have hwh := whigh m hb.1 hb.2
  have hhd : wenc m = whead m :: wtail m (fur m) := rfl
  have hwd : whead m = 256 - 2 ^ (8 - fur m) + m / 2 ^ (8 * fur m) := rfl
  obtain ⟨q, hq⟩ : ∃ q, fur m = q := ⟨_, rfl⟩
  rw [hq] at hsz h7 hwh hhd hwd
  have hp1 := pow_62 (8 - q) (by omega)
  have hp2 := pow_62 (8 * q) (by omega)
  have hpp : (2 : Int) ^ (8 - q) = 2 * 2 ^ (7 - q) := by rw [show 8 - q = 7 - q + 1 by omega, Int.pow_succ, Int.mul_comm]
  have hp8 : (2 : Int) ^ (8 - q) ≤ 256 := by
    have e : (2 : Int) ^ 8 = 256 := by decide
    rw [← e]
    exact_mod_cast Nat.pow_le_pow_right (by decide : 0 < 2) (by omega)
  rw [hpp] at hp8 hp1 hwd
  obtain ⟨P1, hP1⟩ : ∃ P : Int, 2 ^ (7 - q) = P := ⟨_, rfl⟩
  obtain ⟨P2, hP2⟩ : ∃ P : Int, 2 ^ (8 * q) = P := ⟨_, rfl⟩
  rw [hP1] at hpp hp8 hp1 hwd hwh
  rw [hP2] at hp2 hwd hwh
  obtain ⟨y0, y1⟩ := hwh
  obtain ⟨m0, m1⟩ := hb
  have y2 : 0 ≤ 256 - 2 * P1 + m / P2 := by omega
  have y3 : 256 - 2 * P1 + m / P2 ≤ 255 := by omega
  have hpw := rpower_any
  replace hpw := hidden hpw
  replace hnum := hidden hnum
  replace hsz := hidden hsz
  replace hhd := hidden hhd
  replace hwd := hidden hwd
  replace hpp := hidden hpp
  replace hP1 := hidden hP1
  replace hP2 := hidden hP2
  have H := hidden h
  clear h hm hq
  go_enter Try.func37, Try.ntmps37
  go_wp2_with fail
  refine (hnum.out _).mono ?_
  rintro e _ ⟨rfl, rfl⟩
  go_wp2_with fail
  refine (hsz.out _).mono ?_
  rintro e _ ⟨rfl, rfl⟩
  go_wp2_with (at_builtin; refine wpList_append_rd rfl _ _ 34 rfl w.heap.size 5 i0 (.int .u8 0) 1 1 Try.underlying34 hi hz0 hz1 hz2 rfl (by decide) (.slice none 0 0) 0 [] rfl hnil a D.length cap (bs D) rfl H.out (bs_one D) (by unfold maxLen; omega) (by omega) (by simp) ?_; intro v1 w1 hown hgrow hb1)
  rw [Nat.zero_add, List.nil_append] at hown
  have X1 : Ext w w1 := ((Chg.refl [] w).grown hgrow (fun k hk => by simp [Value.ownBlock] at hk)).ext
  have hs1 := X1.size
  clear hgrow hb1
  go_wp2_with fail
  refine (hpw.out _ (8 - q) (by omega) (by omega) _).mono ?_
  rw [hpp.out]
  rintro e _ ⟨rfl, rfl⟩
  go_wp2_with fail
  refine (hpw.out _ (8 * q) (by omega) (by omega) _).mono ?_
  rw [hP2.out]
  rintro e _ ⟨rfl, rfl⟩
  go_wp2_with (at_builtin; refine wpList_append_own _ rfl _ _ 34 rfl w.heap.size 5 i0 (.int .u8 0) 1 1 Try.underlying34 hi hz0 hz1 hz2 rfl (by decide) v1 D.length (bs D) rfl (World.ownsRow.alloc hown _) ⟨w1.heap.size, 0, none⟩ 1 1 [.int .u8 (256 - 2 * P1 + m / P2)] rfl rfl (World.news_of_block (cs := #[.int .u8 (256 - 2 * P1 + m / P2)]) (t := 5) (fr := (0, 0)) (heap_alloc_new w1 _)) (by simp [Value.oneCell']) (by unfold maxLen; omega) (by omega) (by simp; omega) ?_; intro v2 w2 hown2 hgrow2 hnil2)
  have X2 := grown_ext X1 _ hown hgrow2
  have O2 : Own8 w2 w.heap.size v2 (D ++ whead m :: (wtail m q).take 0) := by
    unfold Own8
    rw [hwd.out, List.length_append, bs_app]
    exact hown2
  clear hown2 hgrow2 hnil2 hown X1 hs1
  replace hnil := hidden hnil
  clear y0 y1 y2 y3 hp1 hp2 hp8
  go_loopw [6, 7] (fun o i wr => ∃ (j : Nat) (t : Int), j ≤ q ∧ i = .int .i64 t ∧ -1 ≤ t ∧ t ≤ 6 ∧ Hid (t = (q : Int) - 1 - (j : Int)) ∧ Own8 wr w.heap.size o (D ++ whead m :: (wtail m q).take j) ∧ Ext w wr) (fun _ i _ => (intOf i + 1).toNat)
  case atStart => exact ⟨0, (q : Int) - 1, by omega, rfl, by omega, by omega, (by show _ = _; omega), O2, X2⟩
  case round =>
    clear O2 X2
    obtain ⟨j, t, hj, rfl, t0, t1, ht, hO, X⟩ := hrel
    by_cases hlt : j < q
    · have hs := X.size
      have hlD : (D ++ whead m :: (wtail m q).take j).length ≤ 900010 := by
        have : ((wtail m q).take j).length ≤ j := List.length_take_le _ _
        rw [List.length_append, List.length_cons]; omega
      have hnext := wtail_snoc m q j hlt
      have hpb := pow_62 (8 * (q - 1 - j)) (by omega)
      obtain ⟨P, hP⟩ : ∃ P : Int, 2 ^ (8 * (q - 1 - j)) = P := ⟨_, rfl⟩
      rw [hP] at hpb hnext
      have hfin : D ++ whead m :: (wtail m q).take (j + 1) = D ++ whead m :: (wtail m q).take j ++ [m / P % 256] := by rw [hnext]; simp
      obtain ⟨L, hL⟩ : ∃ L, D ++ whead m :: (wtail m q).take j = L := ⟨_, rfl⟩
      rw [hL] at hO hlD hfin
      replace hfin := hidden hfin
      replace hP := hidden hP
      obtain ⟨pb0, pb1⟩ := hpb
      have hq0 : 0 ≤ m / P := Int.ediv_nonneg m0 (by omega)
      have hq1 : m / P ≤ 9007199254740991 := Int.le_trans (Int.ediv_le_self _ m0) m1
      clear hL hnext
      have hge : 0 ≤ t := by have := ht.out; omega
      replace hlt := hidden hlt
      replace hj := hidden hj
      go_wp2_with fail
      refine (hpw.out _ (8 * (q - 1 - j)) (by have := ht.out; have := hlt.out; omega) (by omega) _).mono ?_
      rw [hP.out]
      rintro e _ ⟨rfl, rfl⟩
      go_wp2_with (at_builtin; refine wpList_append_own _ rfl _ _ 34 rfl w.heap.size 5 i0 (.int .u8 0) 1 1 Try.underlying34 hi hz0 hz1 hz2 rfl (by decide) u6 L.length (bs L) rfl (World.ownsRow.alloc hO _) ⟨wr.heap.size, 0, none⟩ 1 1 [.int .u8 (m / P % 256)] rfl rfl (World.news_of_block (cs := #[.int .u8 (m / P % 256)]) (t := 5) (fr := (0, 0)) (heap_alloc_new wr _)) (by simp [Value.oneCell']) (by unfold maxLen; omega) (by omega) (by simp; omega) ?_; intro v3 w3 hown3 hgrow3 hnil3)
      have X3 := grown_ext X _ hO hgrow3
      have O3 : Own8 w3 w.heap.size v3 (D ++ whead m :: (wtail m q).take (j + 1)) := by
        rw [hfin.out]
        unfold Own8
        rw [List.length_append, bs_app]
        exact hown3
      go_roundw
      case rel => exact ⟨j + 1, t - 1, by have := hlt.out; omega, rfl, by omega, by omega, by show _ = _; have := ht.out; omega, O3, X3⟩
      case measure => simp [intOf]; omega
    · obtain rfl : j = q := by omega
      have hfull : (wtail m j).take j = wtail m j := List.take_of_length_le (by rw [wtail_len]; exact Nat.le_refl _)
      rw [hfull, ← hhd.out] at hO
      have hneg : t = -1 := by have := ht.out; omega
      subst hneg
      replace hj := hidden hj
      clear hfull hlt
      go_wp2_with fail
      go_ret
      exact ⟨_, rfl, hO, X⟩
end Go.Proofs.Ytchkbidekmaaiaa
