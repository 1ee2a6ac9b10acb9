/- Layer 35: Longest and Greedy of the program; Common of the reference. -/
import Derived.Test.YtlnlffmlficjnaaLt
import Derived.Test.YtlnlffmlficjnaaLp
namespace Go.Proofs.Ytlnlffmlficjnaa
open Go.RowKit
set_option linter.unusedVariables false
attribute [local go_sem ↓] Go.wp_at_zero Go.wp_at_succ

/-- What Longest leaves. -/
def LoPost (w : World) (r : Int × (Int × Int × Int)) (x : Ending) (w' : World) : Prop := x = .returned (.tuple #[tkv r.2, .int .i64 r.1]) ∧ Ext w w'
theorem Ext.set3 {w w' : World} (h : Ext w w') (p : Nat) (hp : w.heap.size ≤ p) (a b c : Value) : Ext w (((w'.setCell ⟨p, 0, none⟩ a).setCell ⟨p, 1, none⟩ b).setCell ⟨p, 2, none⟩ c) :=
  ((h.setCell (p := ⟨p, 0, none⟩) hp a).setCell (p := ⟨p, 1, none⟩) hp b).setCell (p := ⟨p, 2, none⟩) hp c

set_option maxHeartbeats 2000000 in
theorem lLongest_any (v : Value) (D : List Int) (a : Int) (hb : Bytes D) (ha0 : -9223372036854775808 ≤ a) (ha1 : a ≤ 9223372036854775807) (hl : D.length ≤ 9223372036854775807) (w : World) (h : Rd8 w v D) :
    Calls Try.prog 24 #[v, .int .i64 a] w (LoPost w (loE D a)) := by
  have Z0 := Blk.new w [.int .i64 0, .int .i64 0, .int .u8 0] 27
  have hX0 := (Ext.refl w).alloc (.cells #[.int .i64 0, .int .i64 0, .int .u8 0] 27)
  have hR : Rd8 (w.alloc (.cells #[.int .i64 0, .int .i64 0, .int .u8 0] 27)) v D := Rd.ext h hX0
  have hlo := fun (n : Nat) (hn : n < D.length) (hl : D.length ≤ 65536) W (hW : Rd8 W v D) => llongest_any v D n hb hn hl W hW
  have hin := lin_any a 0 ((D.length : Int) - 1)
  obtain ⟨ad, cap, rfl, q1, q2, q3⟩ := Rd.shape h
  obtain ⟨m, hm⟩ : ∃ m, D.length = m := ⟨_, rfl⟩
  have e1 : 65536 < m → loE D a = (5, (0, 0, 0)) := fun e => by unfold loE; rw [hm, if_pos e]
  have e2 : ¬ 65536 < m → ¬ (0 ≤ a ∧ a ≤ (m : Int) - 1) → loE D a = (2, (0, 0, 0)) := fun e k => by unfold loE; rw [hm, if_neg e, if_pos (by omega)]
  have e3 : ¬ 65536 < m → (0 ≤ a ∧ a ≤ (m : Int) - 1) → loE D a = (0, loF D a.toNat) := fun e k => by unfold loE; rw [hm, if_neg e, if_neg (by omega)]
  rw [hm] at q1 hl hlo hin hR ⊢
  replace hlo := hidden hlo
  replace hin := hidden hin
  replace hR := hidden hR
  replace hX0 := hidden hX0
  clear h hm
  have z0 := Z0.cell 0 _ rfl
  have z1 := Z0.cell 1 _ rfl
  have z2 := Z0.cell 2 _ rfl
  replace Z0 := hidden Z0
  by_cases k1 : 65536 < m
  · rw [e1 k1]
    clear e1 e2 e3
    go_enter Try.func24, Try.ntmps24
    go_wp2_with fail
    exact bodyPost_ret (v := .tuple #[.agg #[.int .i64 0, .int .i64 0, .int .u8 0], .int .i64 5]) (by simp [results, Try.results24, go_sem]) rfl ⟨rfl, hX0.out⟩
  · by_cases k2 : 0 ≤ a ∧ a ≤ (m : Int) - 1
    · have hd : Hid (decide (0 ≤ a ∧ a ≤ (m : Int) - 1) = true) := hidden (by simp [k2])
      rw [e3 k1 k2]
      clear e1 e2 e3
      obtain ⟨u1, u2⟩ := k2
      obtain ⟨n, rfl⟩ : ∃ n : Nat, a = (n : Int) := ⟨a.toNat, by omega⟩
      rw [Int.toNat_natCast]
      have hl2 := hlo.out n (by omega) (by omega)
      obtain ⟨⟨L, Ds, B⟩, hN⟩ : ∃ N, loF D n = N := ⟨_, rfl⟩
      rw [hN] at hl2 ⊢
      replace hl2 := hidden hl2
      clear hlo hN
      go_enter Try.func24, Try.ntmps24
      go_wp2_with fail
      refine (hin.out _).mono ?_
      rw [hd.out]
      rintro e w1 ⟨rfl, g1⟩
      have hR1 : Rd8 w1 (.slice ad m cap) D := Rd.ext hR.out g1
      go_wp2_with fail
      refine (hl2.out _ hR1).mono ?_
      rintro e w2 ⟨he2, g2⟩
      change e = .returned (.agg #[.int .i64 L, .int .i64 Ds, .int .u8 B]) at he2
      subst he2
      have Z2 := (Z0.out.ext g1).ext g2
      have hX2 := (hX0.out.trans g1).trans g2
      have f0 := Z2.frozen 0
      have f1 := Z2.frozen 1
      have f2 := Z2.frozen 2
      have y0 := Z2.cell 0 _ rfl
      have y1 := Z2.cell 1 _ rfl
      have y2 := Z2.cell 2 _ rfl
      replace Z2 := hidden Z2
      clear hR1
      go_wp2_with fail
      have Z3 := ((Z2.out.set 0 (.int .i64 L)).set 1 (.int .i64 Ds)).set 2 (.int .u8 B)
      have p0 := Z3.cell 0 _ rfl
      have p1 := Z3.cell 1 _ rfl
      have p2 := Z3.cell 2 _ rfl
      exact bodyPost_ret (v := .tuple #[.agg #[.int .i64 L, .int .i64 Ds, .int .u8 B], .int .i64 0]) (by simp [results, Try.results24, go_sem, p0, p1, p2]) rfl ⟨rfl, hX2.set3 _ (Nat.le_refl _) _ _ _⟩
    · have hd : Hid (decide (0 ≤ a ∧ a ≤ (m : Int) - 1) = false) := hidden (by simpa using k2)
      rw [e2 k1 k2]
      clear e1 e2 e3 k2
      go_enter Try.func24, Try.ntmps24
      go_wp2_with fail
      refine (hin.out _).mono ?_
      rw [hd.out]
      rintro e w1 ⟨rfl, g1⟩
      have Z2 := Z0.out.ext g1
      have hX2 := hX0.out.trans g1
      have f0 := Z2.frozen 0
      have f1 := Z2.frozen 1
      have f2 := Z2.frozen 2
      have y0 := Z2.cell 0 _ rfl
      have y1 := Z2.cell 1 _ rfl
      have y2 := Z2.cell 2 _ rfl
      replace Z2 := hidden Z2
      go_wp2_with fail
      have Z3 := ((Z2.out.set 0 (.int .i64 0)).set 1 (.int .i64 0)).set 2 (.int .u8 0)
      have p0 := Z3.cell 0 _ rfl
      have p1 := Z3.cell 1 _ rfl
      have p2 := Z3.cell 2 _ rfl
      exact bodyPost_ret (v := .tuple #[.agg #[.int .i64 0, .int .i64 0, .int .u8 0], .int .i64 2]) (by simp [results, Try.results24, go_sem, p0, p1, p2]) rfl ⟨rfl, hX2.set3 _ (Nat.le_refl _) _ _ _⟩

theorem gre_step {b : List Int} {f a : Nat} (h : a < b.length) : gre b (f + 1) a = loF b a :: gre b f (a + (szT (loF b a)).toNat) := by rw [gre, if_pos h]

set_option maxRecDepth 100000 in
set_option maxHeartbeats 2000000 in
theorem lgreedy_any (v : Value) (D : List Int) (hb : Bytes D) (hl : D.length ≤ 9223372036854775807) (w : World) (h : Rd8 w v D) :
    Calls Try.prog 21 #[v] w (DePost w (grF D)) := by
  have hlo := fun (n : Nat) (hn : n < D.length) (hl : D.length ≤ 65536) W (hW : Rd8 W v D) => llongest_any v D n hb hn hl W hW
  obtain ⟨ad, cap, rfl, q1, q2, q3⟩ := Rd.shape h
  obtain ⟨m, hm⟩ : ∃ m, D.length = m := ⟨_, rfl⟩
  have e1 : 65536 < m → grF D = (5, []) := fun e => by unfold grF; rw [hm, if_pos e]
  have e2 : ¬ 65536 < m → grF D = (0, gre D m 0) := fun e => by unfold grF; rw [hm, if_neg e]
  have hR : Hid (Rd8 w (.slice ad m cap) D) := hidden (by rw [← hm]; exact h)
  rw [hm] at q1 hl hlo ⊢
  replace hlo := hidden hlo
  replace hm := hidden hm
  replace hb := hidden hb
  clear h
  by_cases k1 : 65536 < m
  · rw [e1 k1]
    clear e1 e2
    go_enter Try.func21, Try.ntmps21
    go_wp2_with fail
    go_ret2
    exact ⟨_, rfl, OwnT.nil _ _, Ext.refl _⟩
  · rw [e2 k1]
    clear e1 e2
    obtain ⟨R, hRR⟩ : ∃ R, gre D m 0 = R := ⟨_, rfl⟩
    rw [hRR]
    replace hRR := hidden hRR
    go_enter Try.func21, Try.ntmps21
    go_wp2_with fail
    go_loopw [4, 5] (fun s i wr => ∃ (k f q : Nat) (ad5 : Option Addr) (c5 : Nat) (out : List (Int × Int × Int)), s = .slice ad5 q c5 ∧ i = .int .i64 (k : Int) ∧ k ≤ m ∧ q ≤ k ∧ m ≤ k + f ∧ Hid (out.length = q) ∧ Hid (OwnT wr w.heap.size (.slice ad5 q c5) out) ∧ Hid (R = out ++ gre D f k) ∧ Ext w wr) (fun _ i _ => m - (intOf i).toNat)
    case atStart => exact ⟨0, m, 0, none, 0, [], rfl, rfl, by omega, by omega, by omega, rfl, hidden (OwnT.nil _ _), by show _ = _; rw [hRR.out]; rfl, Ext.refl _⟩
    case round =>
      obtain ⟨k, f, q, ad5, c5, out, rfl, rfl, hk, hqk, hf, hol, hO, hRc, hX⟩ := hrel
      obtain ⟨W, hWW⟩ : ∃ Z, Z = wr := ⟨_, rfl⟩
      subst hWW
      by_cases hlt : k < m
      · obtain ⟨f, rfl⟩ : ∃ g, f = g + 1 := ⟨f - 1, by omega⟩
        have hR1 := Rd.ext hR.out hX
        have hl2 := hlo.out k hlt (by omega)
        obtain ⟨u1, u2, u3, u4, u5, u6, u7, u8⟩ := loF_ok hb.out (a := k) (by rw [hm.out]; exact hlt)
        have hst := gre_step (b := D) (f := f) (a := k) (by rw [hm.out]; exact hlt)
        have hpos := szT_pos (loF D k)
        obtain ⟨⟨L, Ds, B⟩, hN⟩ : ∃ N, loF D k = N := ⟨_, rfl⟩
        rw [hN] at hl2 hst hpos u3
        rw [hm.out] at u3
        have hsz := lsize_any L Ds B
        obtain ⟨y, hy⟩ : ∃ y, szT (L, Ds, B) = y := ⟨_, rfl⟩
        rw [hy] at hst hpos u3
        simp only [hy] at hsz
        have hyn : ((k : Int) + y) = ((k + y.toNat : Nat) : Int) := by omega
        replace hyn := hidden hyn
        replace hl2 := hidden hl2
        replace hst := hidden hst
        replace hsz := hidden hsz
        clear hy hN u1 u2 u4 u5 u6 u7 u8
        go_wp2_with fail
        refine (hl2.out _ hR1).mono ?_
        rintro e w3 ⟨he2, g3⟩
        change e = .returned (.agg #[.int .i64 L, .int .i64 Ds, .int .u8 B]) at he2
        subst he2
        have hX3 := hX.trans g3
        have hX4 := hX3.alloc (.cells #[.int .i64 L, .int .i64 Ds, .int .u8 B] 27)
        have O3 := OwnT.alloc (own_ext hO.out g3 : OwnT w3 w.heap.size (.slice ad5 q c5) out) (.cells #[.int .i64 L, .int .i64 Ds, .int .u8 B] 27)
        have O3' : OwnT w3 w.heap.size (.slice ad5 q c5) out := own_ext hO.out g3
        have hB3 := Blk.new w3 [.int .i64 L, .int .i64 Ds, .int .u8 B] 27
        have hB3' := hB3.alloc (.cells #[.int .i64 L, .int .i64 Ds, .int .u8 B] 27)
        have hq3 := Blk.newAt (w3.alloc (.cells #[.int .i64 L, .int .i64 Ds, .int .u8 B] 27)) [.int .i64 L, .int .i64 Ds, .int .u8 B] 27 (w3.heap.size + 1) (by simp)
        have hs3 : w.heap.size ≤ ((w3.alloc (.cells #[.int .i64 L, .int .i64 Ds, .int .u8 B] 27)).alloc (.cells #[.int .i64 L, .int .i64 Ds, .int .u8 B] 27)).heap.size := by rw [World.size_alloc, World.size_alloc]; have := hX3.size; omega
        have hfar : (Value.slice ad5 q c5).ownBlock ≠ some w3.heap.size := fun e => by have h4 := own_lt O3' e; omega
        have d0 := hB3.cell 0 _ rfl
        have d1 := hB3.cell 1 _ rfl
        have d2 := hB3.cell 2 _ rfl
        replace O3 := hidden O3
        replace O3' := hidden O3'
        replace hB3 := hidden hB3
        replace hB3' := hidden hB3'
        replace hq3 := hidden hq3
        replace hX4 := hidden hX4
        replace hfar := hidden hfar
        clear hR1
        go_wp2_with (at_builtin; refine wpList_appendT (by rfl) _ _ (by rfl) w.heap.size (.slice ad5 q c5) out (L, Ds, B) (w3.heap.size + 1) (OwnT.alloc O3.out _) (by rfl) (by rfl) hq3.out (by rw [hol.out]; omega) hs3 ?_; rw [hol.out]; intro g cap' w4 hO4 hg4 hat4 hlt4; have B4 := hB3'.out.grown hg4 hfar.out; have d0' := B4.cell 0 _ rfl; have d1' := B4.cell 1 _ rfl; have d2' := B4.cell 2 _ rfl)
        have hX5 : Ext w w4 := ownT_ext1 hX4.out _ O3.out hg4
        replace hO4 := hidden hO4
        clear B4
        go_wp2_with fail
        refine (hsz.out _).mono ?_
        rintro e w5 ⟨rfl, g5⟩
        go_wp2_with fail
        go_round
        case rel => exact ⟨k + y.toNat, f, q + 1, _, _, out ++ [(L, Ds, B)], rfl, by rw [hyn.out], by omega, by omega, by omega, hidden (by simp [hol.out]), hidden (own_ext hO4.out g5), by show _ = _; rw [hRc.out, hst.out]; simp, hX5.trans g5⟩
        case measure => simp [intOf]; omega
      · have hfin : Hid (R = out) := hidden (by rw [hRc.out, gre_end (by rw [hm.out]; omega), List.append_nil])
        go_wp2_with fail
        go_ret2
        rw [hfin.out]
        exact ⟨_, rfl, hO.out, hX⟩

set_option maxRecDepth 100000 in
set_option maxHeartbeats 2000000 in
theorem rcommon_any (v : Value) (D : List Int) (a d : Nat) (hb : Bytes D) (h1 : 1 ≤ d) (hd : d ≤ a) (ha : a < D.length) (hl : D.length ≤ 65536) (w : World) (h : Rd8 w v D) :
    Calls Try.prog 41 #[v, .int .i64 (a : Int), .int .i64 (d : Int)] w fun x w' => x = .returned (.int .i64 (lnT D a d : Int)) ∧ Ext w w' := by
  obtain ⟨ad, cap, rfl, q1, q2, q3⟩ := Rd.shape h
  obtain ⟨bb, off, hab, -, -⟩ := Rd.cells h (by omega)
  subst hab
  obtain ⟨m, hm⟩ : ∃ m, D.length = m := ⟨_, rfl⟩
  obtain ⟨M, hM⟩ : ∃ M, min 255 (m - a) = M := ⟨_, rfl⟩
  have hM1 : M ≤ 255 ∧ a + M ≤ m ∧ (M = 255 ∨ a + M = m) := by omega
  have hln : lnT D a d = cmn D d a M := by unfold lnT mst; rw [hm, hM]
  obtain ⟨L, hL⟩ : ∃ L, lnT D a d = L := ⟨_, rfl⟩
  have hLc : Hid (cmn D d a M = L) := hidden (by rw [← hln, hL])
  rw [hL]
  have hR : Hid (Rd8 w (.slice (some ⟨bb, off, none⟩) m cap) D) := hidden (by rw [← hm]; exact h)
  rw [hm] at q1 ha hl ⊢
  replace hm := hidden hm
  replace hb := hidden hb
  obtain ⟨hM2, hM3, hM4⟩ := hM1
  replace hM4 := hidden hM4
  clear h hM hln hL
  go_enter Try.func41, Try.ntmps41
  go_wp2_with fail
  go_loopw [7] (fun s6 wx => ∃ j : Nat, s6 = .int .i64 (j : Int) ∧ j ≤ M ∧ Hid (j + cmn D d (a + j) (M - j) = L) ∧ Ext w wx) (fun s6 _ => M - (intOf s6).toNat)
  case atStart => exact ⟨0, rfl, Nat.zero_le _, by show _ = _; rw [Nat.zero_add, Nat.add_zero, Nat.sub_zero]; exact hLc.out, Ext.refl _⟩
  case round =>
    obtain ⟨j, rfl, hjM, hLj, hX⟩ := hrel
    obtain ⟨wj, hwj⟩ : ∃ x, x = wr := ⟨_, rfl⟩
    subst hwj
    by_cases hj : j < M
    · have dR2 := Rd.ext hR.out hX
      have cA := Rd8.at dR2 (a + j) (by rw [hm.out]; omega)
      have cB := Rd8.at dR2 (a + j - d) (by rw [hm.out]; omega)
      have i1 : (0 : Int) ≤ (a : Int) + (j : Int) := by omega
      have i2 : (a : Int) + (j : Int) < (m : Int) := by omega
      have i3 : ((a : Int) + (j : Int)).toNat = a + j := by omega
      have i4 : (0 : Int) ≤ (a : Int) + (j : Int) - (d : Int) := by omega
      have i5 : (a : Int) + (j : Int) - (d : Int) < (m : Int) := by omega
      have i6 : ((a : Int) + (j : Int) - (d : Int)).toNat = a + j - d := by omega
      have i7 : (j : Int) < 255 := by omega
      have w1 : IntKind.i64.wrap ((a : Int) + (j : Int)) = (a : Int) + (j : Int) := IntWalk.i64_in _ (by omega)
      have w2 : IntKind.i64.wrap ((a : Int) + (j : Int) - (d : Int)) = (a : Int) + (j : Int) - (d : Int) := IntWalk.i64_in _ (by omega)
      have b1 : decide ((j : Int) < 255) = true := by simp; omega
      have b2 : decide ((a : Int) + (j : Int) < (m : Int)) = true := by simp; omega
      by_cases hq : D.getD (a + j) 0 = D.getD (a + j - d) 0
      · have hst := hidden (cmn_step (D := D) (d := d) (a := a) hj hq)
        rw [← hq] at cB
        obtain ⟨y, hy⟩ : ∃ y, D.getD (a + j) 0 = y := ⟨_, rfl⟩
        rw [hy] at cA cB
        replace dR2 := hidden dR2
        clear hq hy
        go_wp2_with fail
        go_quiet (fail)
        go_wp2_with fail
        go_round
        case rel => exact ⟨j + 1, by go_num, by omega, by show _ = _; rw [← hst.out]; exact hLj.out, hX.drewN _⟩
        case measure => simp [intOf]; omega
      · have hst := cmn_stop (D := D) (d := d) (a := a) hj hq
        obtain ⟨y, hy⟩ : ∃ y, D.getD (a + j) 0 = y := ⟨_, rfl⟩
        obtain ⟨z, hz⟩ : ∃ z, D.getD (a + j - d) 0 = z := ⟨_, rfl⟩
        rw [hy] at cA hq
        rw [hz] at cB hq
        have hyz : (y == z) = false := by simp [hq]
        have hfin : Hid (L = j) := by show _ = _; rw [← hLj.out, hst]
        replace dR2 := hidden dR2
        clear hq hy hz hst
        go_wp2_with fail
        go_quiet (fail)
        go_wp2_with fail
        go_ret
        exact ⟨ret_int (by rw [hfin.out]), hX.drewN _⟩
    · have hfin : Hid (L = j) := by show _ = _; rw [← hLj.out, show M - j = 0 by omega]; rfl
      by_cases hj2 : j < 255
      · have b1 : decide ((j : Int) < 255) = true := by simp; omega
        have b2 : decide ((a : Int) + (j : Int) < (m : Int)) = false := by have := hM4.out; simp; omega
        have w1 : IntKind.i64.wrap ((a : Int) + (j : Int)) = (a : Int) + (j : Int) := IntWalk.i64_in _ (by omega)
        go_wp2_with fail
        go_quiet (fail)
        go_wp2_with fail
        go_ret
        exact ⟨ret_int (by rw [hfin.out]), hX.drewN _⟩
      · have b1 : decide ((j : Int) < 255) = false := by simp; omega
        go_wp2_with fail
        go_quiet (fail)
        go_wp2_with fail
        go_ret
        exact ⟨ret_int (by rw [hfin.out]), hX.drewN _⟩
end Go.Proofs.Ytlnlffmlficjnaa
