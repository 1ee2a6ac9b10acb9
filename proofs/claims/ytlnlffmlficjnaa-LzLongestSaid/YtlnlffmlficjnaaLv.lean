/- Layer 35: Longest, Greedy and Same of the reference. -/
import Derived.Test.YtlnlffmlficjnaaLu
namespace Go.Proofs.Ytlnlffmlficjnaa
open Go.RowKit
set_option linter.unusedVariables false
attribute [local go_sem ↓] Go.wp_at_zero Go.wp_at_succ

set_option maxRecDepth 100000 in
set_option maxHeartbeats 2000000 in
theorem rlongest_good (v : Value) (D : List Int) (a : Nat) (hb : Bytes D) (ha : a < D.length) (hl : D.length ≤ 65536) (w : World) (h : Rd8 w v D) :
    Calls Try.prog 25 #[v, .int .i64 (a : Int)] w (LoPost w (0, loF D a)) := by
  obtain ⟨ad, cap, rfl, q1, q2, q3⟩ := Rd.shape h
  obtain ⟨bb, off, hab, hbb, -⟩ := Rd.cells h (by omega)
  subst hab
  have cA := Rd8.at h a ha
  have hC := fun (d : Nat) (h1 : 1 ≤ d) (hd : d ≤ a) W (hW : Rd8 W _ D) => rcommon_any (.slice (some ⟨bb, off, none⟩) D.length cap) D a d hb h1 hd ha hl W hW
  obtain ⟨y, hy⟩ : ∃ y, D.getD a 0 = y := ⟨_, rfl⟩
  obtain ⟨K, hK⟩ : ∃ K, min 4096 a = K := ⟨_, rfl⟩
  have hK1 : K ≤ 4096 ∧ K ≤ a ∧ (K = 4096 ∨ K = a) := by omega
  have hlo : loF D a = bsts y (cps D a K) := by unfold loF; rw [hy, hK]
  have hlb := fun d => lnT_le D a d
  obtain ⟨⟨L0, D0, B0⟩, hN0⟩ : ∃ N, loF D a = N := ⟨_, rfl⟩
  rw [hN0] at hlo ⊢
  unfold LoPost
  show Calls _ _ _ _ fun x w' => x = .returned (.tuple #[.agg #[.int .i64 L0, .int .i64 D0, .int .u8 B0], .int .i64 0]) ∧ Ext w w'
  rw [hy] at cA
  obtain ⟨m, hm⟩ : ∃ m, D.length = m := ⟨_, rfl⟩
  have haI : (a : Int) < (m : Int) := by omega
  have haI0 : (0 : Int) ≤ (a : Int) := by omega
  have hR : Hid (Rd8 w (.slice (some ⟨bb, off, none⟩) m cap) D) := hidden (by rw [← hm]; exact h)
  rw [hm] at q1 hC ha hl ⊢
  obtain ⟨hK2, hK3, hK4⟩ := hK1
  replace hK4 := hidden hK4
  replace hlo := hidden hlo
  replace hlb := hidden hlb
  replace hC := hidden hC
  have Z0 := (Blk.new w [.int .i64 0, .int .i64 0, .int .u8 0] 27).alloc (.cells #[.int .i64 0, .int .i64 0, .int .u8 y] 27)
  have B1 : Blk ((w.alloc (.cells #[.int .i64 0, .int .i64 0, .int .u8 0] 27)).alloc (.cells #[.int .i64 0, .int .i64 0, .int .u8 y] 27)) (w.heap.size + 1) 27 (tkc (bsts y (cps D a 0))) := Blk.newAt (w.alloc (.cells #[.int .i64 0, .int .i64 0, .int .u8 0] 27)) [.int .i64 0, .int .i64 0, .int .u8 y] 27 (w.heap.size + 1) (by simp)
  have hX0 := ((Ext.refl w).alloc (.cells #[.int .i64 0, .int .i64 0, .int .u8 0] 27)).alloc (.cells #[.int .i64 0, .int .i64 0, .int .u8 y] 27)
  replace Z0 := hidden Z0
  replace B1 := hidden B1
  replace hX0 := hidden hX0
  clear h hm hy hK hN0
  have t0 : decide ((a : Int) < 0) = false := by simp
  have t1 : decide (m ≤ a) = false := by simp; omega
  go_enter Try.func25, Try.ntmps25
  go_wp2_with fail
  go_loopw [7] (fun s wx => ∃ k : Nat, s = .int .i64 ((k : Int) + 1) ∧ k ≤ K ∧ Hid (Blk wx w.heap.size 27 [.int .i64 0, .int .i64 0, .int .u8 0]) ∧ Hid (Blk wx (w.heap.size + 1) 27 (tkc (bsts y (cps D a k)))) ∧ Ext w wx) (fun s _ => K + 1 - (intOf s).toNat)
  case atStart => exact ⟨0, rfl, Nat.zero_le _, Z0, B1, hX0.out⟩
  case round =>
    obtain ⟨k, rfl, hk, hZ, hB, hX⟩ := hrel
    obtain ⟨wj, hwj⟩ : ∃ x, x = wr := ⟨_, rfl⟩
    subst hwj
    by_cases hlt : k < K
    · have b1 : (k : Int) + 1 ≤ 4096 := by omega
      have b2 : (k : Int) + 1 ≤ (a : Int) := by omega
      have hR1 : Rd8 wj (.slice (some ⟨bb, off, none⟩) m cap) D := Rd.ext hR.out hX
      have hc1 := hC.out (k + 1) (by omega) (by omega)
      obtain ⟨l0, l1⟩ := hlb.out (k + 1)
      have hs0 := fun h => cps_no D a k h
      have hs1 := fun h => cps_yes D a k h
      obtain ⟨n, hn⟩ : ∃ n, lnT D a (k + 1) = n := ⟨_, rfl⟩
      rw [hn] at hc1 l0 l1 hs0 hs1
      rw [Int.natCast_add, Int.natCast_one] at hc1
      replace hc1 := hidden hc1
      obtain ⟨⟨L, Ds, B⟩, hN⟩ : ∃ N, bsts y (cps D a k) = N := ⟨_, rfl⟩
      have hno : n < 2 ∨ (n : Int) ≤ L → Hid (bsts y (cps D a (k + 1)) = (L, Ds, B)) := fun e => hidden (by
        by_cases e2 : n < 2
        · rw [hs0 e2, hN]
        · rw [hs1 (by omega), bsts_snoc, hN]
          unfold bst
          rw [if_neg (by simp only; omega)])
      have hyes : 2 ≤ n → L < (n : Int) → Hid (bsts y (cps D a (k + 1)) = ((n : Int), (k : Int) + 1, 0)) := fun e e2 => hidden (by
        rw [hs1 e, bsts_snoc, hN]
        unfold bst
        rw [if_pos (by simp only; omega)]
        simp)
      have hB2 := hB.out
      rw [hN] at hB2
      replace hB2 := hidden hB2
      replace hno := hidden hno
      replace hyes := hidden hyes
      clear hn hs0 hs1 hN hB l1
      go_wp2_with fail
      refine (hc1.out _ hR1).mono ?_
      rintro e w3 ⟨rfl, g3⟩
      have hX3 := hX.trans g3
      have hZ3 := hZ.out.ext g3
      have hB3 := hB2.out.ext g3
      have c0 := hB3.cell 0 _ rfl
      have c1 := hB3.cell 1 _ rfl
      have c2 := hB3.cell 2 _ rfl
      have f0 := hB3.frozen 0
      have f1 := hB3.frozen 1
      have f2 := hB3.frozen 2
      simp only at c0 c1 c2
      replace hZ3 := hidden hZ3
      replace hB3 := hidden hB3
      clear hR1
      by_cases e1 : 2 ≤ n
      · have i1 : (2 : Int) ≤ (n : Int) := by omega
        by_cases e2 : L < (n : Int)
        · have hfin := hyes.out e1 e2
          have hne : w.heap.size ≠ w.heap.size + 1 := by omega
          go_wp2_with fail
          have hB4 := ((hB3.out.set 0 (.int .i64 (n : Int))).set 1 (.int .i64 ((k : Int) + 1))).set 2 (.int .u8 0)
          have hZ4 := ((hZ3.out.set_other (i := 0) hne (.int .i64 (n : Int))).set_other (i := 1) hne (.int .i64 ((k : Int) + 1))).set_other (i := 2) hne (.int .u8 0)
          go_round
          case rel => exact ⟨k + 1, by go_num, by omega, hidden hZ4, hidden (by rw [hfin.out]; exact hB4), hX3.set3 _ (by omega) _ _ _⟩
          case measure => simp [intOf]; omega
        · have hfin := hno.out (Or.inr (by omega))
          go_wp2_with fail
          go_round
          case rel => exact ⟨k + 1, by go_num, by omega, hZ3, hidden (by rw [hfin.out]; exact hB3.out), hX3⟩
          case measure => simp [intOf]; omega
      · have i1 : ¬ (2 : Int) ≤ (n : Int) := by omega
        have hfin := hno.out (Or.inl (by omega))
        go_wp2_with fail
        go_round
        case rel => exact ⟨k + 1, by go_num, by omega, hZ3, hidden (by rw [hfin.out]; exact hB3.out), hX3⟩
        case measure => simp [intOf]; omega
    · have hB2 : Blk wj (w.heap.size + 1) 27 [.int .i64 L0, .int .i64 D0, .int .u8 B0] := by
        have := hB.out
        rw [show k = K by omega, ← hlo.out] at this
        exact this
      have c0 := hB2.cell 0 _ rfl
      have c1 := hB2.cell 1 _ rfl
      have c2 := hB2.cell 2 _ rfl
      have f0 := hZ.out.frozen 0
      have f1 := hZ.out.frozen 1
      have f2 := hZ.out.frozen 2
      have z0 := hZ.out.cell 0 _ rfl
      have z1 := hZ.out.cell 1 _ rfl
      have z2 := hZ.out.cell 2 _ rfl
      replace hB2 := hidden hB2
      by_cases e1 : (k : Int) + 1 ≤ 4096
      · have e2 : ¬ (k : Int) + 1 ≤ (a : Int) := by have := hK4.out; omega
        go_wp2_with fail
        have Z3 := ((hZ.out.set 0 (.int .i64 L0)).set 1 (.int .i64 D0)).set 2 (.int .u8 B0)
        have p0 := Z3.cell 0 _ rfl
        have p1 := Z3.cell 1 _ rfl
        have p2 := Z3.cell 2 _ rfl
        exact bodyPost_ret (v := .tuple #[.agg #[.int .i64 L0, .int .i64 D0, .int .u8 B0], .int .i64 0]) (by simp [results, Try.results25, go_sem, p0, p1, p2]) rfl ⟨rfl, hX.set3 _ (Nat.le_refl _) _ _ _⟩
      · go_wp2_with fail
        have Z3 := ((hZ.out.set 0 (.int .i64 L0)).set 1 (.int .i64 D0)).set 2 (.int .u8 B0)
        have p0 := Z3.cell 0 _ rfl
        have p1 := Z3.cell 1 _ rfl
        have p2 := Z3.cell 2 _ rfl
        exact bodyPost_ret (v := .tuple #[.agg #[.int .i64 L0, .int .i64 D0, .int .u8 B0], .int .i64 0]) (by simp [results, Try.results25, go_sem, p0, p1, p2]) rfl ⟨rfl, hX.set3 _ (Nat.le_refl _) _ _ _⟩

set_option maxHeartbeats 2000000 in
theorem rlongest_any (v : Value) (D : List Int) (a : Int) (hb : Bytes D) (ha0 : -9223372036854775808 ≤ a) (ha1 : a ≤ 9223372036854775807) (hl : D.length ≤ 9223372036854775807) (w : World) (h : Rd8 w v D) :
    Calls Try.prog 25 #[v, .int .i64 a] w (LoPost w (loE D a)) := by
  by_cases k1 : 65536 < D.length
  · rw [show loE D a = (5, (0, 0, 0)) by unfold loE; rw [if_pos k1]]
    have hX0 := hidden ((Ext.refl w).alloc (.cells #[.int .i64 0, .int .i64 0, .int .u8 0] 27))
    obtain ⟨ad, cap, rfl, q1, q2, q3⟩ := Rd.shape h
    clear h hb
    go_enter Try.func25, Try.ntmps25
    go_wp2_with fail
    exact bodyPost_ret (v := .tuple #[.agg #[.int .i64 0, .int .i64 0, .int .u8 0], .int .i64 5]) (by simp [results, Try.results25, go_sem]) rfl ⟨rfl, hX0.out⟩
  · by_cases k2 : a < 0
    · rw [show loE D a = (2, (0, 0, 0)) by unfold loE; rw [if_neg k1, if_pos (Or.inl k2)]]
      have hX0 := hidden ((Ext.refl w).alloc (.cells #[.int .i64 0, .int .i64 0, .int .u8 0] 27))
      obtain ⟨ad, cap, rfl, q1, q2, q3⟩ := Rd.shape h
      clear h hb
      go_enter Try.func25, Try.ntmps25
      go_wp2_with fail
      exact bodyPost_ret (v := .tuple #[.agg #[.int .i64 0, .int .i64 0, .int .u8 0], .int .i64 2]) (by simp [results, Try.results25, go_sem]) rfl ⟨rfl, hX0.out⟩
    · by_cases k3 : (D.length : Int) ≤ a
      · rw [show loE D a = (2, (0, 0, 0)) by unfold loE; rw [if_neg k1, if_pos (Or.inr k3)]]
        have hX0 := hidden ((Ext.refl w).alloc (.cells #[.int .i64 0, .int .i64 0, .int .u8 0] 27))
        obtain ⟨ad, cap, rfl, q1, q2, q3⟩ := Rd.shape h
        clear h hb
        go_enter Try.func25, Try.ntmps25
        go_wp2_with fail
        exact bodyPost_ret (v := .tuple #[.agg #[.int .i64 0, .int .i64 0, .int .u8 0], .int .i64 2]) (by simp [results, Try.results25, go_sem]) rfl ⟨rfl, hX0.out⟩
      · rw [show loE D a = (0, loF D a.toNat) by unfold loE; rw [if_neg k1, if_neg (by omega)]]
        have := rlongest_good v D a.toNat hb (by omega) (by omega) w h
        rw [Int.toNat_of_nonneg (by omega)] at this
        exact this

set_option maxRecDepth 100000 in
set_option maxHeartbeats 2000000 in
theorem rgreedy_any (v : Value) (D : List Int) (hb : Bytes D) (hl : D.length ≤ 9223372036854775807) (w : World) (h : Rd8 w v D) :
    Calls Try.prog 26 #[v] w (DePost w (grF D)) := by
  have hlo := fun (n : Nat) (hn : n < D.length) (hl : D.length ≤ 65536) W (hW : Rd8 W v D) => rlongest_good v D n hb hn hl W hW
  obtain ⟨ad, cap, rfl, q1, q2, q3⟩ := Rd.shape h
  obtain ⟨m, hm⟩ : ∃ m, D.length = m := ⟨_, rfl⟩
  have e1 : 65536 < m → grF D = (5, []) := fun e => by unfold grF; rw [hm, if_pos e]
  have e2 : ¬ 65536 < m → grF D = (0, gre D m 0) := fun e => by unfold grF; rw [hm, if_neg e]
  have hR : Hid (Rd8 w (.slice ad m cap) D) := hidden (by rw [← hm]; exact h)
  rw [hm] at q1 hl hlo ⊢
  replace hlo := hidden hlo
  replace hm := hidden hm
  replace hb := hidden hb
  clear h
  by_cases k1 : 65536 < m
  · rw [e1 k1]
    clear e1 e2
    go_enter Try.func26, Try.ntmps26
    go_wp2_with fail
    go_ret2
    exact ⟨_, rfl, OwnT.nil _ _, Ext.refl _⟩
  · rw [e2 k1]
    clear e1 e2
    obtain ⟨R, hRR⟩ : ∃ R, gre D m 0 = R := ⟨_, rfl⟩
    rw [hRR]
    replace hRR := hidden hRR
    go_enter Try.func26, Try.ntmps26
    go_wp2_with fail
    go_loopw [4, 5] (fun s i wr => ∃ (k f q : Nat) (ad5 : Option Addr) (c5 : Nat) (out : List (Int × Int × Int)), s = .slice ad5 q c5 ∧ i = .int .i64 (k : Int) ∧ k ≤ m ∧ q ≤ k ∧ m ≤ k + f ∧ Hid (out.length = q) ∧ Hid (OwnT wr w.heap.size (.slice ad5 q c5) out) ∧ Hid (R = out ++ gre D f k) ∧ Ext w wr) (fun _ i _ => m - (intOf i).toNat)
    case atStart => exact ⟨0, m, 0, none, 0, [], rfl, rfl, by omega, by omega, by omega, rfl, hidden (OwnT.nil _ _), by show _ = _; rw [hRR.out]; rfl, Ext.refl _⟩
    case round =>
      obtain ⟨k, f, q, ad5, c5, out, rfl, rfl, hk, hqk, hf, hol, hO, hRc, hX⟩ := hrel
      obtain ⟨W, hWW⟩ : ∃ Z, Z = wr := ⟨_, rfl⟩
      subst hWW
      by_cases hlt : k < m
      · obtain ⟨f, rfl⟩ : ∃ g, f = g + 1 := ⟨f - 1, by omega⟩
        have hR1 := Rd.ext hR.out hX
        have hl2 := hlo.out k hlt (by omega)
        obtain ⟨u1, u2, u3, u4, u5, u6, u7, u8⟩ := loF_ok hb.out (a := k) (by rw [hm.out]; exact hlt)
        have hst := gre_step (b := D) (f := f) (a := k) (by rw [hm.out]; exact hlt)
        have hpos := szT_pos (loF D k)
        obtain ⟨⟨L, Ds, B⟩, hN⟩ : ∃ N, loF D k = N := ⟨_, rfl⟩
        rw [hN] at hl2 hst hpos u3
        rw [hm.out] at u3
        have hsz := rsize_any L Ds B
        obtain ⟨y, hy⟩ : ∃ y, szT (L, Ds, B) = y := ⟨_, rfl⟩
        rw [hy] at hst hpos u3
        simp only [hy] at hsz
        have hyn : ((k : Int) + y) = ((k + y.toNat : Nat) : Int) := by omega
        replace hyn := hidden hyn
        replace hl2 := hidden hl2
        replace hst := hidden hst
        replace hsz := hidden hsz
        clear hy hN u1 u2 u4 u5 u6 u7 u8
        go_wp2_with fail
        refine (hl2.out _ hR1).mono ?_
        rintro e w3 ⟨he2, g3⟩
        change e = .returned (.tuple #[.agg #[.int .i64 L, .int .i64 Ds, .int .u8 B], .int .i64 0]) at he2
        subst he2
        have hX3 := hX.trans g3
        have hX4 := hX3.alloc (.cells #[.int .i64 L, .int .i64 Ds, .int .u8 B] 27)
        have O3 := OwnT.alloc (own_ext hO.out g3 : OwnT w3 w.heap.size (.slice ad5 q c5) out) (.cells #[.int .i64 L, .int .i64 Ds, .int .u8 B] 27)
        have O3' : OwnT w3 w.heap.size (.slice ad5 q c5) out := own_ext hO.out g3
        have hB3 := Blk.new w3 [.int .i64 L, .int .i64 Ds, .int .u8 B] 27
        have hB3' := hB3.alloc (.cells #[.int .i64 L, .int .i64 Ds, .int .u8 B] 27)
        have hq3 := Blk.newAt (w3.alloc (.cells #[.int .i64 L, .int .i64 Ds, .int .u8 B] 27)) [.int .i64 L, .int .i64 Ds, .int .u8 B] 27 (w3.heap.size + 1) (by simp)
        have hs3 : w.heap.size ≤ ((w3.alloc (.cells #[.int .i64 L, .int .i64 Ds, .int .u8 B] 27)).alloc (.cells #[.int .i64 L, .int .i64 Ds, .int .u8 B] 27)).heap.size := by rw [World.size_alloc, World.size_alloc]; have := hX3.size; omega
        have hfar : (Value.slice ad5 q c5).ownBlock ≠ some w3.heap.size := fun e => by have h4 := own_lt O3' e; omega
        have d0 := hB3.cell 0 _ rfl
        have d1 := hB3.cell 1 _ rfl
        have d2 := hB3.cell 2 _ rfl
        replace O3 := hidden O3
        replace O3' := hidden O3'
        replace hB3 := hidden hB3
        replace hB3' := hidden hB3'
        replace hq3 := hidden hq3
        replace hX4 := hidden hX4
        replace hfar := hidden hfar
        clear hR1
        go_wp2_with (at_builtin; refine wpList_appendT (by rfl) _ _ (by rfl) w.heap.size (.slice ad5 q c5) out (L, Ds, B) (w3.heap.size + 1) (OwnT.alloc O3.out _) (by rfl) (by rfl) hq3.out (by rw [hol.out]; omega) hs3 ?_; rw [hol.out]; intro g cap' w4 hO4 hg4 hat4 hlt4; have B4 := hB3'.out.grown hg4 hfar.out; have d0' := B4.cell 0 _ rfl; have d1' := B4.cell 1 _ rfl; have d2' := B4.cell 2 _ rfl)
        have hX5 : Ext w w4 := ownT_ext1 hX4.out _ O3.out hg4
        replace hO4 := hidden hO4
        clear B4
        go_wp2_with fail
        refine (hsz.out _).mono ?_
        rintro e w5 ⟨rfl, g5⟩
        go_wp2_with fail
        go_round
        case rel => exact ⟨k + y.toNat, f, q + 1, _, _, out ++ [(L, Ds, B)], rfl, by rw [hyn.out], by omega, by omega, by omega, hidden (by simp [hol.out]), hidden (own_ext hO4.out g5), by show _ = _; rw [hRc.out, hst.out]; simp, hX5.trans g5⟩
        case measure => simp [intOf]; omega
      · have hfin : Hid (R = out) := hidden (by rw [hRc.out, gre_end (by rw [hm.out]; omega), List.append_nil])
        go_wp2_with fail
        go_ret2
        rw [hfin.out]
        exact ⟨_, rfl, hO.out, hX⟩
end Go.Proofs.Ytlnlffmlficjnaa
