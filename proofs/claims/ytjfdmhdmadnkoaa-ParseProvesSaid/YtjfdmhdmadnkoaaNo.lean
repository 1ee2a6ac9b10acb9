/- Layer 36: other, a factorization that numbers choose; the statement ParseBeats. -/
import Derived.Test.YtjfdmhdmadnkoaaNn
namespace Go.Proofs.Ytjfdmhdmadnkoaa
open Go.RowKit
set_option linter.unusedVariables false
attribute [local go_sem ↓] Go.wp_at_zero Go.wp_at_succ

def OtP (w : World) (D : List Int) (x : Ending) (w' : World) : Prop := ∃ v l, x = .returned v ∧ OwnT w' w.heap.size v l ∧ Fac D 0 l ∧ Ext w w'

set_option maxRecDepth 100000 in
set_option maxHeartbeats 8000000 in
theorem other_any (v vn : Value) (D N : List Int) (hb : Bytes D) (hbN : Bytes N) (hl : D.length ≤ 120) (w : World) (h : Rd8 w v D) (hn : Rd8 w vn N) :
    Calls Try.prog 23 #[v, vn] w (OtP w D) := by
  have hC := fun (a d : Nat) (h1 : 1 ≤ d) (hd : d ≤ a) (ha : a < D.length) W' (hW : Rd8 W' v D) => rcommon_any v D a d hb h1 hd ha (by omega) W' hW
  obtain ⟨ad, cap, rfl, q1, q2, q3⟩ := Rd.shape h
  obtain ⟨an, cn, rfl, n1, n2, n3⟩ := Rd.shape hn
  obtain ⟨m, hm⟩ : ∃ m, D.length = m := ⟨_, rfl⟩
  obtain ⟨r, hr⟩ : ∃ m, N.length = m := ⟨_, rfl⟩
  have hR : Hid (Rd8 w (.slice ad m cap) D) := hidden (by rw [← hm]; exact h)
  have hQ : Hid (Rd8 w (.slice an r cn) N) := hidden (by rw [← hr]; exact hn)
  rw [hm] at q1 hl hC ⊢
  rw [hr] at n1 ⊢
  have hs := fun (L Ds B : Int) W => rsize_any L Ds B W
  replace hs := hidden hs
  replace hm := hidden hm
  replace hr := hidden hr
  replace hb := hidden hb
  replace hbN := hidden hbN
  replace hC := hidden hC
  clear h hn
  go_enter Try.func23, Try.ntmps23
  go_wp2_with fail
  go_loopw [5, 6, 7] (fun s i c wr => ∃ (k j q : Nat) (ad5 : Option Addr) (c5 : Nat) (out : List (Int × Int × Int)), s = .slice ad5 q c5 ∧ i = .int .i64 (k : Int) ∧ c = .int .i64 (j : Int) ∧ k ≤ m ∧ q ≤ k ∧ j ≤ k ∧ Hid (out.length = q) ∧ Hid (OwnT wr w.heap.size (.slice ad5 q c5) out) ∧ Hid (∀ t, Fac D k t → Fac D 0 (out ++ t)) ∧ Ext w wr) (fun _ i _ _ => m - (intOf i).toNat)
  case atStart => exact ⟨0, 0, 0, none, 0, [], rfl, rfl, rfl, by omega, by omega, by omega, rfl, hidden (OwnT.nil _ _), hidden (fun t ht => ht), Ext.refl _⟩
  case round =>
    obtain ⟨k, j, q, ad5, c5, out, rfl, rfl, rfl, hk, hqk, hjk, hol, hO, hF, hX⟩ := hrel
    obtain ⟨W, hWW⟩ : ∃ Z, Z = wr := ⟨_, rfl⟩
    subst hWW
    by_cases hlt : k < m
    · have hltI : (k : Int) < (m : Int) := by omega
      have hR1 := Rd.ext hR.out hX
      obtain ⟨bb, off, hab, -⟩ := Rd8.some hR1 (by rw [hm.out]; omega)
      subst hab
      have cA := Rd8.at hR1 k (by rw [hm.out]; exact hlt)
      have yA := getD_bd8 hb.out k
      obtain ⟨y, hy⟩ : ∃ y, D.getD k 0 = y := ⟨_, rfl⟩
      rw [hy] at cA yA
      have hlit : Fit D k (0, 0, y) := ⟨by rw [hm.out]; exact hlt, Or.inl (by rw [hy])⟩
      have hcp : ∀ d n : Nat, 1 ≤ d → d ≤ k → 2 ≤ n → n ≤ lnT D k d → Fit D k ((n : Int), (d : Int), 0) := fun d n h1 h2 h3 h4 => ⟨by rw [hm.out]; exact hlt, Or.inr ⟨n, d, rfl, h3, h1, by omega, h4⟩⟩
      have hfin : ∀ t : Int × Int × Int, Fit D k t → (1 ≤ szT t ∧ (k : Int) + szT t ≤ m) ∧ (∀ u, Fac D (k + (szT t).toNat) u → Fac D 0 ((out ++ [t]) ++ u)) := fun t ht => by
        obtain ⟨-, -, h3, -, h5, -⟩ := chc_ok hb.out (show k < D.length by rw [hm.out]; exact hlt) (Nat.min_le_left 4096 k) (Nat.min_le_right 4096 k) ht.2
        rw [hm.out] at h3
        refine ⟨⟨h5, h3⟩, fun u hu => ?_⟩
        rw [List.append_assoc]
        exact hF.out _ (by rw [List.singleton_append, Fac]; exact ⟨ht, hu⟩)
      have hR1h : Hid (Rd8 W (.slice (some ⟨bb, off, none⟩) m cap) D) := hidden hR1
      have O1 : Hid (∀ w3, Ext W w3 → OwnT w3 w.heap.size (.slice ad5 q c5) out) := hidden (fun w3 g => own_ext hO.out g)
      replace hlit := hidden hlit
      replace hcp := hidden hcp
      replace hfin := hidden hfin
      clear hR1 hy
      have hbX := (Ext.refl W).alloc (.cells #[.int .i64 0, .int .i64 0, .int .u8 y] 60)
      have BX := Blk.new W [.int .i64 0, .int .i64 0, .int .u8 y] 60
      have bx0 := BX.cell 0 _ rfl
      have bx1 := BX.cell 1 _ rfl
      have bx2 := BX.cell 2 _ rfl
      -- how a round ends, whatever token stands in the box
      have hne : ∀ (w3 : World) (L Ds B : Int), Chg [W.heap.size] (W.alloc (.cells #[.int .i64 0, .int .i64 0, .int .u8 y] 60)) w3 → Blk w3 W.heap.size 60 [.int .i64 L, .int .i64 Ds, .int .u8 B] → OwnT w3 w.heap.size (.slice ad5 q c5) out ∧ Ext w w3 ∧ (Value.slice ad5 q c5).ownBlock ≠ some W.heap.size := fun w3 L Ds B hc hB => by
        have hf : (Value.slice ad5 q c5).ownBlock ≠ some W.heap.size := fun e => by have h4 := own_lt hO.out e; omega
        refine ⟨own_chg (OwnT.alloc hO.out _) hc (fun x hx => by simp at hx; subst hx; exact hf), ?_, hf⟩
        have h1 := ((Chg.of_ext [] hX).alloc (.cells #[.int .i64 0, .int .i64 0, .int .u8 y] 60)).trans hc (fun x hx => Or.inr (by simp at hx; subst hx; exact hX.size))
        exact h1.ext
      replace hne := hidden hne
      replace BX := hidden BX
      by_cases hcond : j < r ∧ 0 < k
      · obtain ⟨hj1, hk1⟩ := hcond
        have hjI : (j : Int) < (r : Int) := by omega
        have hkI : (0 : Int) < (k : Int) := by omega
        obtain ⟨nb, no, hnb, -⟩ := Rd8.some (Rd.ext hQ.out hX) (by rw [hr.out]; omega)
        subst hnb
        have cN := Rd8.at (Rd.ext (Rd.ext hQ.out hX) hbX) j (by rw [hr.out]; exact hj1)
        have yN := getD_bd8 hbN.out j
        obtain ⟨z, hz⟩ : ∃ y, N.getD j 0 = y := ⟨_, rfl⟩
        rw [hz] at cN yN
        have hz0 : ((k : Int) == 0) = false := by simp; omega
        have hr1 : 0 ≤ z % (k : Int) ∧ z % (k : Int) < (k : Int) := ⟨Int.emod_nonneg _ (by omega), Int.emod_lt_of_pos _ (by omega)⟩
        obtain ⟨e, he⟩ : ∃ e : Nat, z % (k : Int) = (e : Int) := ⟨(z % (k : Int)).toNat, by omega⟩
        rw [he] at hr1
        obtain ⟨-, hr2⟩ := hr1
        obtain ⟨s, hse⟩ : ∃ s : Nat, z / 16 = (s : Int) := ⟨(z / 16).toNat, by omega⟩
        have hs2 : (s : Int) ≤ 15 := by omega
        have hcm := hC.out k (e + 1) (by omega) (by omega) hlt
        have hcp1 := hcp.out (e + 1)
        have hln := lnT_le D k (e + 1)
        obtain ⟨L, hL⟩ : ∃ L, lnT D k (e + 1) = L := ⟨_, rfl⟩
        rw [hL] at hcm hcp1 hln
        obtain ⟨hL1, -⟩ := hln
        have hd1 : 1 + (e : Int) = ((e + 1 : Nat) : Int) := by omega
        have hd0 : 1 ≤ 1 + (e : Int) := by omega
        rw [← hd1] at hcm
        simp only [← hd1] at hcp1
        replace hcm := hidden hcm
        replace hcp1 := hidden hcp1
        have vs : IntKind.i64.wrap ((L : Int) - (s : Int)) = (L : Int) - (s : Int) := IntWalk.i64_in _ (by omega)
        clear hz hL hd1
        go_wp2_with fail
        refine (hcm.out _ (Rd.ext hR1h.out hbX)).mono ?_
        rintro e9 w1 ⟨rfl, g1⟩
        by_cases c1 : 2 ≤ (L : Int) - (s : Int)
        · obtain ⟨nn, hnn⟩ : ∃ nn : Nat, (L : Int) - (s : Int) = (nn : Int) := ⟨((L : Int) - (s : Int)).toNat, by omega⟩
          have c1' : (2 : Int) ≤ (nn : Int) := by omega
          have fit := hidden (hcp1.out nn (by omega) (by omega) (by omega) (by omega))
          have vs2 : IntKind.i64.wrap ((L : Int) - (s : Int)) = (nn : Int) := by rw [vs, hnn]
          have hnv : (L : Int) - (s : Int) = (nn : Int) := hnn
          clear vs hnn
          have b1 := BX.out.ext g1
          have f0 := b1.frozen 0
          have f1 := b1.frozen 1
          have f2 := b1.frozen 2
          have i0 := b1.cell 0 _ rfl
          have i1 := b1.cell 1 _ rfl
          have i2 := b1.cell 2 _ rfl
          have cN1 := g1.cell cN
          have hB3 : Blk (((w1.setCell ⟨W.heap.size, 0, none⟩ (Value.int .i64 ((nn : Int)))).setCell ⟨W.heap.size, 1, none⟩ (Value.int .i64 (1 + (e : Int)))).setCell ⟨W.heap.size, 2, none⟩ (Value.int .u8 0)) W.heap.size 60 [.int .i64 ((nn : Int)), .int .i64 (1 + (e : Int)), .int .u8 (0)] := (((b1.set 0 _).set 1 _).set 2 _)
          obtain ⟨o3, x3, hf3⟩ := hne.out (((w1.setCell ⟨W.heap.size, 0, none⟩ (Value.int .i64 ((nn : Int)))).setCell ⟨W.heap.size, 1, none⟩ (Value.int .i64 (1 + (e : Int)))).setCell ⟨W.heap.size, 2, none⟩ (Value.int .u8 0)) ((nn : Int)) (1 + (e : Int)) (0) ((((Chg.of_ext [W.heap.size] g1).setCell (p := ⟨W.heap.size, 0, none⟩) (Or.inl (by simp)) _).setCell (p := ⟨W.heap.size, 1, none⟩) (Or.inl (by simp)) _).setCell (p := ⟨W.heap.size, 2, none⟩) (Or.inl (by simp)) _) hB3
          obtain ⟨⟨u1, u2⟩, hu⟩ := hfin.out ((nn : Int), 1 + (e : Int), 0) fit.out
          have hs1 : ∀ w', Calls Try.prog 35 #[.agg #[.int .i64 ((nn : Int)), .int .i64 (1 + (e : Int)), .int .u8 (0)]] w' _ := fun w' => hs ((nn : Int)) (1 + (e : Int)) (0) w'
          obtain ⟨yy, hyy⟩ : ∃ x, szT ((nn : Int), 1 + (e : Int), 0) = x := ⟨_, rfl⟩
          rw [hyy] at u1 u2 hu
          simp only [hyy] at hs1
          have hyn : ((k : Int) + yy) = ((k + yy.toNat : Nat) : Int) := by omega
          have O4 := OwnT.alloc o3 (.cells #[.int .i64 ((nn : Int)), .int .i64 (1 + (e : Int)), .int .u8 (0)] 60)
          have hq4 := Blk.newAt (((w1.setCell ⟨W.heap.size, 0, none⟩ (Value.int .i64 ((nn : Int)))).setCell ⟨W.heap.size, 1, none⟩ (Value.int .i64 (1 + (e : Int)))).setCell ⟨W.heap.size, 2, none⟩ (Value.int .u8 0)) [.int .i64 ((nn : Int)), .int .i64 (1 + (e : Int)), .int .u8 (0)] 60 w1.heap.size (by simp [World.setCell])
          have B4 := hB3.alloc (.cells #[.int .i64 ((nn : Int)), .int .i64 (1 + (e : Int)), .int .u8 (0)] 60)
          have hs3 : w.heap.size ≤ ((((w1.setCell ⟨W.heap.size, 0, none⟩ (Value.int .i64 ((nn : Int)))).setCell ⟨W.heap.size, 1, none⟩ (Value.int .i64 (1 + (e : Int)))).setCell ⟨W.heap.size, 2, none⟩ (Value.int .u8 0)).alloc (.cells #[.int .i64 ((nn : Int)), .int .i64 (1 + (e : Int)), .int .u8 (0)] 60)).heap.size := by rw [World.size_alloc]; have := x3.size; omega
          have d0 := hB3.cell 0 _ rfl
          have d1 := hB3.cell 1 _ rfl
          have d2 := hB3.cell 2 _ rfl
          replace hyn := hidden hyn
          replace hs1 := hidden hs1
          replace hu := hidden hu
          replace O4 := hidden O4
          replace hq4 := hidden hq4
          replace B4 := hidden B4
          replace hf3 := hidden hf3
          replace x3 := hidden x3
          replace o3 := hidden o3
          clear hyy hB3
          go_wp2_with (at_builtin; refine wpList_appendT (by rfl) _ _ (by rfl) w.heap.size (.slice ad5 q c5) out ((nn : Int), 1 + (e : Int), 0) _ O4.out (by rfl) (by rfl) hq4.out (by rw [hol.out]; omega) hs3 ?_; rw [hol.out]; intro g5 cap' w6 hO6 hg6 hat6 hlt6; have B6 := B4.out.grown hg6 hf3.out; have d0' := B6.cell 0 _ rfl; have d1' := B6.cell 1 _ rfl; have d2' := B6.cell 2 _ rfl)
          have hX6 : Ext w w6 := ownT_ext1 x3.out _ o3.out hg6
          replace hO6 := hidden hO6
          clear B6
          go_wp2_with fail
          refine (hs1.out _).mono ?_
          rintro e w7 ⟨rfl, g7⟩
          go_wp2_with fail
          go_round
          case rel => exact ⟨k + yy.toNat, j + 1, q + 1, _, _, out ++ [((nn : Int), 1 + (e : Int), 0)], rfl, by rw [hyn.out], by go_num, by omega, by omega, by omega, hidden (by simp [hol.out]), hidden (own_ext hO6.out g7), hu, hX6.trans g7⟩
          case measure => simp [intOf]; omega
        · by_cases c2 : 2 ≤ (L : Int)
          · have fit := hidden (hcp1.out L (by omega) (by omega) (by omega) (Nat.le_refl _))
            have b1 := BX.out.ext g1
            have f0 := b1.frozen 0
            have f1 := b1.frozen 1
            have f2 := b1.frozen 2
            have i0 := b1.cell 0 _ rfl
            have i1 := b1.cell 1 _ rfl
            have i2 := b1.cell 2 _ rfl
            have cN1 := g1.cell cN
            have hB3 : Blk (((w1.setCell ⟨W.heap.size, 0, none⟩ (Value.int .i64 ((L : Int)))).setCell ⟨W.heap.size, 1, none⟩ (Value.int .i64 (1 + (e : Int)))).setCell ⟨W.heap.size, 2, none⟩ (Value.int .u8 0)) W.heap.size 60 [.int .i64 ((L : Int)), .int .i64 (1 + (e : Int)), .int .u8 (0)] := (((b1.set 0 _).set 1 _).set 2 _)
            obtain ⟨o3, x3, hf3⟩ := hne.out (((w1.setCell ⟨W.heap.size, 0, none⟩ (Value.int .i64 ((L : Int)))).setCell ⟨W.heap.size, 1, none⟩ (Value.int .i64 (1 + (e : Int)))).setCell ⟨W.heap.size, 2, none⟩ (Value.int .u8 0)) ((L : Int)) (1 + (e : Int)) (0) ((((Chg.of_ext [W.heap.size] g1).setCell (p := ⟨W.heap.size, 0, none⟩) (Or.inl (by simp)) _).setCell (p := ⟨W.heap.size, 1, none⟩) (Or.inl (by simp)) _).setCell (p := ⟨W.heap.size, 2, none⟩) (Or.inl (by simp)) _) hB3
            obtain ⟨⟨u1, u2⟩, hu⟩ := hfin.out ((L : Int), 1 + (e : Int), 0) fit.out
            have hs1 : ∀ w', Calls Try.prog 35 #[.agg #[.int .i64 ((L : Int)), .int .i64 (1 + (e : Int)), .int .u8 (0)]] w' _ := fun w' => hs ((L : Int)) (1 + (e : Int)) (0) w'
            obtain ⟨yy, hyy⟩ : ∃ x, szT ((L : Int), 1 + (e : Int), 0) = x := ⟨_, rfl⟩
            rw [hyy] at u1 u2 hu
            simp only [hyy] at hs1
            have hyn : ((k : Int) + yy) = ((k + yy.toNat : Nat) : Int) := by omega
            have O4 := OwnT.alloc o3 (.cells #[.int .i64 ((L : Int)), .int .i64 (1 + (e : Int)), .int .u8 (0)] 60)
            have hq4 := Blk.newAt (((w1.setCell ⟨W.heap.size, 0, none⟩ (Value.int .i64 ((L : Int)))).setCell ⟨W.heap.size, 1, none⟩ (Value.int .i64 (1 + (e : Int)))).setCell ⟨W.heap.size, 2, none⟩ (Value.int .u8 0)) [.int .i64 ((L : Int)), .int .i64 (1 + (e : Int)), .int .u8 (0)] 60 w1.heap.size (by simp [World.setCell])
            have B4 := hB3.alloc (.cells #[.int .i64 ((L : Int)), .int .i64 (1 + (e : Int)), .int .u8 (0)] 60)
            have hs3 : w.heap.size ≤ ((((w1.setCell ⟨W.heap.size, 0, none⟩ (Value.int .i64 ((L : Int)))).setCell ⟨W.heap.size, 1, none⟩ (Value.int .i64 (1 + (e : Int)))).setCell ⟨W.heap.size, 2, none⟩ (Value.int .u8 0)).alloc (.cells #[.int .i64 ((L : Int)), .int .i64 (1 + (e : Int)), .int .u8 (0)] 60)).heap.size := by rw [World.size_alloc]; have := x3.size; omega
            have d0 := hB3.cell 0 _ rfl
            have d1 := hB3.cell 1 _ rfl
            have d2 := hB3.cell 2 _ rfl
            replace hyn := hidden hyn
            replace hs1 := hidden hs1
            replace hu := hidden hu
            replace O4 := hidden O4
            replace hq4 := hidden hq4
            replace B4 := hidden B4
            replace hf3 := hidden hf3
            replace x3 := hidden x3
            replace o3 := hidden o3
            clear hyy hB3
            go_wp2_with (at_builtin; refine wpList_appendT (by rfl) _ _ (by rfl) w.heap.size (.slice ad5 q c5) out ((L : Int), 1 + (e : Int), 0) _ O4.out (by rfl) (by rfl) hq4.out (by rw [hol.out]; omega) hs3 ?_; rw [hol.out]; intro g5 cap' w6 hO6 hg6 hat6 hlt6; have B6 := B4.out.grown hg6 hf3.out; have d0' := B6.cell 0 _ rfl; have d1' := B6.cell 1 _ rfl; have d2' := B6.cell 2 _ rfl)
            have hX6 : Ext w w6 := ownT_ext1 x3.out _ o3.out hg6
            replace hO6 := hidden hO6
            clear B6
            go_wp2_with fail
            refine (hs1.out _).mono ?_
            rintro e w7 ⟨rfl, g7⟩
            go_wp2_with fail
            go_round
            case rel => exact ⟨k + yy.toNat, j + 1, q + 1, _, _, out ++ [((L : Int), 1 + (e : Int), 0)], rfl, by rw [hyn.out], by go_num, by omega, by omega, by omega, hidden (by simp [hol.out]), hidden (own_ext hO6.out g7), hu, hX6.trans g7⟩
            case measure => simp [intOf]; omega
          ·
            have b1 := BX.out.ext g1
            have f0 := b1.frozen 0
            have f1 := b1.frozen 1
            have f2 := b1.frozen 2
            have i0 := b1.cell 0 _ rfl
            have i1 := b1.cell 1 _ rfl
            have i2 := b1.cell 2 _ rfl
            have cN1 := g1.cell cN
            have hB3 : Blk w1 W.heap.size 60 [.int .i64 (0), .int .i64 (0), .int .u8 (y)] := b1
            obtain ⟨o3, x3, hf3⟩ := hne.out w1 (0) (0) (y) (Chg.of_ext _ g1) hB3
            obtain ⟨⟨u1, u2⟩, hu⟩ := hfin.out (0, 0, y) hlit.out
            have hs1 : ∀ w', Calls Try.prog 35 #[.agg #[.int .i64 (0), .int .i64 (0), .int .u8 (y)]] w' _ := fun w' => hs (0) (0) (y) w'
            obtain ⟨yy, hyy⟩ : ∃ x, szT (0, 0, y) = x := ⟨_, rfl⟩
            rw [hyy] at u1 u2 hu
            simp only [hyy] at hs1
            have hyn : ((k : Int) + yy) = ((k + yy.toNat : Nat) : Int) := by omega
            have O4 := OwnT.alloc o3 (.cells #[.int .i64 (0), .int .i64 (0), .int .u8 (y)] 60)
            have hq4 := Blk.new w1 [.int .i64 (0), .int .i64 (0), .int .u8 (y)] 60
            have B4 := hB3.alloc (.cells #[.int .i64 (0), .int .i64 (0), .int .u8 (y)] 60)
            have hs3 : w.heap.size ≤ (w1.alloc (.cells #[.int .i64 (0), .int .i64 (0), .int .u8 (y)] 60)).heap.size := by rw [World.size_alloc]; have := x3.size; omega
            have d0 := hB3.cell 0 _ rfl
            have d1 := hB3.cell 1 _ rfl
            have d2 := hB3.cell 2 _ rfl
            replace hyn := hidden hyn
            replace hs1 := hidden hs1
            replace hu := hidden hu
            replace O4 := hidden O4
            replace hq4 := hidden hq4
            replace B4 := hidden B4
            replace hf3 := hidden hf3
            replace x3 := hidden x3
            replace o3 := hidden o3
            clear hyy hB3
            go_wp2_with (at_builtin; refine wpList_appendT (by rfl) _ _ (by rfl) w.heap.size (.slice ad5 q c5) out (0, 0, y) _ O4.out (by rfl) (by rfl) hq4.out (by rw [hol.out]; omega) hs3 ?_; rw [hol.out]; intro g5 cap' w6 hO6 hg6 hat6 hlt6; have B6 := B4.out.grown hg6 hf3.out; have d0' := B6.cell 0 _ rfl; have d1' := B6.cell 1 _ rfl; have d2' := B6.cell 2 _ rfl)
            have hX6 : Ext w w6 := ownT_ext1 x3.out _ o3.out hg6
            replace hO6 := hidden hO6
            clear B6
            go_wp2_with fail
            refine (hs1.out _).mono ?_
            rintro e w7 ⟨rfl, g7⟩
            go_wp2_with fail
            go_round
            case rel => exact ⟨k + yy.toNat, j + 1, q + 1, _, _, out ++ [(0, 0, y)], rfl, by rw [hyn.out], by go_num, by omega, by omega, by omega, hidden (by simp [hol.out]), hidden (own_ext hO6.out g7), hu, hX6.trans g7⟩
            case measure => simp [intOf]; omega
      · have hsp : (j < r ∧ k = 0) ∨ ¬ j < r := by omega
        rcases hsp with ⟨hj1, hk0⟩ | hj1
        · have hjI : (j : Int) < (r : Int) := by omega
          have hkI : ¬ (0 : Int) < (k : Int) := by omega
          replace hk0 := hidden hk0
          clear hcond
          have hB3 : Blk (W.alloc (.cells #[.int .i64 0, .int .i64 0, .int .u8 y] 60)) W.heap.size 60 [.int .i64 (0), .int .i64 (0), .int .u8 (y)] := BX.out
          obtain ⟨o3, x3, hf3⟩ := hne.out (W.alloc (.cells #[.int .i64 0, .int .i64 0, .int .u8 y] 60)) (0) (0) (y) (Chg.refl _ _) hB3
          obtain ⟨⟨u1, u2⟩, hu⟩ := hfin.out (0, 0, y) hlit.out
          have hs1 : ∀ w', Calls Try.prog 35 #[.agg #[.int .i64 (0), .int .i64 (0), .int .u8 (y)]] w' _ := fun w' => hs (0) (0) (y) w'
          obtain ⟨yy, hyy⟩ : ∃ x, szT (0, 0, y) = x := ⟨_, rfl⟩
          rw [hyy] at u1 u2 hu
          simp only [hyy] at hs1
          have hyn : ((k : Int) + yy) = ((k + yy.toNat : Nat) : Int) := by omega
          have O4 := OwnT.alloc o3 (.cells #[.int .i64 (0), .int .i64 (0), .int .u8 (y)] 60)
          have hq4 := Blk.newAt (W.alloc (.cells #[.int .i64 0, .int .i64 0, .int .u8 y] 60)) [.int .i64 (0), .int .i64 (0), .int .u8 (y)] 60 (W.heap.size + 1) (by simp)
          have B4 := hB3.alloc (.cells #[.int .i64 (0), .int .i64 (0), .int .u8 (y)] 60)
          have hs3 : w.heap.size ≤ ((W.alloc (.cells #[.int .i64 0, .int .i64 0, .int .u8 y] 60)).alloc (.cells #[.int .i64 (0), .int .i64 (0), .int .u8 (y)] 60)).heap.size := by rw [World.size_alloc]; have := x3.size; omega
          have d0 := hB3.cell 0 _ rfl
          have d1 := hB3.cell 1 _ rfl
          have d2 := hB3.cell 2 _ rfl
          replace hyn := hidden hyn
          replace hs1 := hidden hs1
          replace hu := hidden hu
          replace O4 := hidden O4
          replace hq4 := hidden hq4
          replace B4 := hidden B4
          replace hf3 := hidden hf3
          replace x3 := hidden x3
          replace o3 := hidden o3
          clear hyy hB3
          go_wp2_with (at_builtin; refine wpList_appendT (by rfl) _ _ (by rfl) w.heap.size (.slice ad5 q c5) out (0, 0, y) _ O4.out (by rfl) (by rfl) hq4.out (by rw [hol.out]; omega) hs3 ?_; rw [hol.out]; intro g5 cap' w6 hO6 hg6 hat6 hlt6; have B6 := B4.out.grown hg6 hf3.out; have d0' := B6.cell 0 _ rfl; have d1' := B6.cell 1 _ rfl; have d2' := B6.cell 2 _ rfl)
          have hX6 : Ext w w6 := ownT_ext1 x3.out _ o3.out hg6
          replace hO6 := hidden hO6
          clear B6
          go_wp2_with fail
          refine (hs1.out _).mono ?_
          rintro e w7 ⟨rfl, g7⟩
          go_wp2_with fail
          go_round
          case rel => exact ⟨k + yy.toNat, j + 1, q + 1, _, _, out ++ [(0, 0, y)], rfl, by rw [hyn.out], by go_num, by omega, by omega, by omega, hidden (by simp [hol.out]), hidden (own_ext hO6.out g7), hu, hX6.trans g7⟩
          case measure => simp [intOf]; omega
        · have hjI : ¬ (j : Int) < (r : Int) := by omega
          clear hcond
          have hB3 : Blk (W.alloc (.cells #[.int .i64 0, .int .i64 0, .int .u8 y] 60)) W.heap.size 60 [.int .i64 (0), .int .i64 (0), .int .u8 (y)] := BX.out
          obtain ⟨o3, x3, hf3⟩ := hne.out (W.alloc (.cells #[.int .i64 0, .int .i64 0, .int .u8 y] 60)) (0) (0) (y) (Chg.refl _ _) hB3
          obtain ⟨⟨u1, u2⟩, hu⟩ := hfin.out (0, 0, y) hlit.out
          have hs1 : ∀ w', Calls Try.prog 35 #[.agg #[.int .i64 (0), .int .i64 (0), .int .u8 (y)]] w' _ := fun w' => hs (0) (0) (y) w'
          obtain ⟨yy, hyy⟩ : ∃ x, szT (0, 0, y) = x := ⟨_, rfl⟩
          rw [hyy] at u1 u2 hu
          simp only [hyy] at hs1
          have hyn : ((k : Int) + yy) = ((k + yy.toNat : Nat) : Int) := by omega
          have O4 := OwnT.alloc o3 (.cells #[.int .i64 (0), .int .i64 (0), .int .u8 (y)] 60)
          have hq4 := Blk.newAt (W.alloc (.cells #[.int .i64 0, .int .i64 0, .int .u8 y] 60)) [.int .i64 (0), .int .i64 (0), .int .u8 (y)] 60 (W.heap.size + 1) (by simp)
          have B4 := hB3.alloc (.cells #[.int .i64 (0), .int .i64 (0), .int .u8 (y)] 60)
          have hs3 : w.heap.size ≤ ((W.alloc (.cells #[.int .i64 0, .int .i64 0, .int .u8 y] 60)).alloc (.cells #[.int .i64 (0), .int .i64 (0), .int .u8 (y)] 60)).heap.size := by rw [World.size_alloc]; have := x3.size; omega
          have d0 := hB3.cell 0 _ rfl
          have d1 := hB3.cell 1 _ rfl
          have d2 := hB3.cell 2 _ rfl
          replace hyn := hidden hyn
          replace hs1 := hidden hs1
          replace hu := hidden hu
          replace O4 := hidden O4
          replace hq4 := hidden hq4
          replace B4 := hidden B4
          replace hf3 := hidden hf3
          replace x3 := hidden x3
          replace o3 := hidden o3
          clear hyy hB3
          go_wp2_with (at_builtin; refine wpList_appendT (by rfl) _ _ (by rfl) w.heap.size (.slice ad5 q c5) out (0, 0, y) _ O4.out (by rfl) (by rfl) hq4.out (by rw [hol.out]; omega) hs3 ?_; rw [hol.out]; intro g5 cap' w6 hO6 hg6 hat6 hlt6; have B6 := B4.out.grown hg6 hf3.out; have d0' := B6.cell 0 _ rfl; have d1' := B6.cell 1 _ rfl; have d2' := B6.cell 2 _ rfl)
          have hX6 : Ext w w6 := ownT_ext1 x3.out _ o3.out hg6
          replace hO6 := hidden hO6
          clear B6
          go_wp2_with fail
          refine (hs1.out _).mono ?_
          rintro e w7 ⟨rfl, g7⟩
          go_wp2_with fail
          go_round
          case rel => exact ⟨k + yy.toNat, j + 1, q + 1, _, _, out ++ [(0, 0, y)], rfl, by rw [hyn.out], by go_num, by omega, by omega, by omega, hidden (by simp [hol.out]), hidden (own_ext hO6.out g7), hu, hX6.trans g7⟩
          case measure => simp [intOf]; omega
    · have hkm : k = m := by omega
      have hfin : Hid (Fac D 0 out) := hidden (by have := hF.out [] (by rw [Fac, hm.out]; exact hkm); rw [List.append_nil] at this; exact this)
      have hltI : ¬ (k : Int) < (m : Int) := by omega
      go_wp2_with fail
      go_ret
      exact ⟨_, _, rfl, hO.out, hfin.out, hX⟩
end Go.Proofs.Ytjfdmhdmadnkoaa
