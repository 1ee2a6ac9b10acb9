/- Layer 35: put of the stream. -/
import Derived.Test.YtjfdmhdmadnkoaaLg
import Derived.Test.YtjfdmhdmadnkoaaBw
namespace Go.Proofs.Ytjfdmhdmadnkoaa
open Go.RowKit
set_option linter.unusedVariables false
attribute [local go_sem ↓] Go.wp_at_zero Go.wp_at_succ

theorem and1_big : (List.range 8192).all (fun i => decide (bits BinOp.and IntKind.i64 (i : Int) 1 = (i : Int) % 2)) = true := by decide +kernel
theorem i64_and1' (y : Int) (h0 : 0 ≤ y) (h1 : y ≤ 8191) : bits BinOp.and IntKind.i64 y 1 = y % 2 := by
  obtain ⟨n, rfl⟩ := Int.eq_ofNat_of_zero_le h0
  exact of_decide_eq_true (List.all_eq_true.1 and1_big n (by simp; omega))
theorem or0_tab : ∀ (i : Fin 256), bits BinOp.or IntKind.u8 (i.val : Int) 0 = (i.val : Int) := by decide +kernel
theorem shl_tab : ∀ (m : Fin 8), (128 : Int) / 2 ^ m.val = 2 ^ (7 - m.val) := by decide +kernel
/-- A free bit is set by or. -/
theorem or_addv (z x : Int) (m : Nat) (h0 : 0 ≤ z) (h1 : z ≤ 255) (hm : m < 8) (hx : x = 0 ∨ x = 1) (hb : bt z m = 0) : bits BinOp.or IntKind.u8 z (x * 2 ^ (7 - m)) = z + x * 2 ^ (7 - m) := by
  rcases hx with rfl | rfl
  · obtain ⟨i, rfl⟩ := byte_of z h0 h1
    rw [Int.zero_mul, Int.add_zero]
    exact or0_tab i
  · have := (or_byte z m h0 h1 hm hb).1
    rw [shl_tab ⟨m, hm⟩] at this
    rw [Int.one_mul]
    exact this

/-- A stream that is written: where it lies, its bytes, the number of its bits, the place. -/
structure Strm (w : World) (p B : Nat) (v : Value) (D : List Int) (c : Nat) (a : Int) : Prop where
  blk : Blk w p 93 [v, .int .i64 (c : Int), .int .i64 a]
  own : Own8 w B v D
  wf : WF D c
theorem Strm.ne {w : World} {p B : Nat} {v : Value} {D : List Int} {c : Nat} {a : Int} (h : Strm w p B v D c a) : v.ownBlock ≠ some p := own_ne_blk h.own h.blk (by decide)
def LPut (p B c : Nat) (a : Int) (v : Value) (D : List Int) (xs : List Int) (w : World) (e : Ending) (w' : World) : Prop :=
  e = .returned (.tuple #[]) ∧ ∃ v', Strm w' p B v' (pshs D c xs) (c + xs.length) a ∧ Stays w v v' ∧ Chg (p :: v.ownBlock.toList) w w'

set_option maxRecDepth 100000 in
set_option maxHeartbeats 4000000 in
theorem lput_any (p B c n : Nat) (a : Int) (v : Value) (D : List Int) (y : Int) (hn : n ≤ 40) (hc : c ≤ 599000) (hy0 : 0 ≤ y) (hy1 : y ≤ 8191) (w : World) (hBw : B ≤ w.heap.size) (h : Strm w p B v D c a) :
    Calls Try.prog 66 #[.pointer (some ⟨p, 0, none⟩), .int .i64 y, .int .i64 (n : Int)] w (LPut p B c a v D (low y n) w) := by
  have hll := low_len y n
  go_enter Try.func66, Try.ntmps66
  go_wp2_with fail
  go_loopw [6] (fun i wr => ∃ (k : Nat) (v' : Value) (z : Int), k ≤ n ∧ i = .int .i64 z ∧ Hid (z = (n : Int) - 1 - (k : Int)) ∧ -1 ≤ z ∧ z ≤ 40 ∧ Hid (Strm wr p B v' (pshs D c ((low y n).take k)) (c + k) a) ∧ Stays w v v' ∧ Chg (p :: v.ownBlock.toList) w wr) (fun i _ => (intOf i + 1).toNat)
  case atStart => exact ⟨0, v, (n : Int) - 1, by omega, by go_num, hidden (by omega), by omega, by omega, hidden (by simpa [pshs] using h), Stays.refl _ _, Chg.refl _ _⟩
  case round =>
    obtain ⟨k, v', z, hk, rfl, hz, z0, z1, hT, hS, hC⟩ := hrel
    obtain ⟨W, hWW⟩ : ∃ W, W = wr := ⟨_, rfl⟩
    subst hWW
    have hsz := hC.size
    by_cases hlt : k < n
    · have z2 : 0 ≤ z := by have := hz.out; omega
      obtain ⟨t, rfl⟩ := Int.eq_ofNat_of_zero_le z2
      have htk := low_take y n k hlt
      have htn : t = n - 1 - k := by have := hz.out; omega
      have hdb : 0 ≤ y / 2 ^ t ∧ y / 2 ^ t ≤ 8191 := by
        refine ⟨Int.ediv_nonneg hy0 (Int.le_of_lt (pow2_pos t)), ?_⟩
        have := Int.ediv_le_self (2 ^ t) hy0
        omega
      have hb1 := i64_and1' _ hdb.1 hdb.2
      rw [← htn] at htk
      obtain ⟨x, hx⟩ : ∃ x, y / 2 ^ t % 2 = x := ⟨_, rfl⟩
      rw [hx] at hb1 htk
      have hx01 : x = 0 ∨ x = 1 := by omega
      have x0' : 0 ≤ x := by omega
      have x1' : x ≤ 1 := by omega
      have hmin : min t 64 = t := by omega
      obtain ⟨E, hE⟩ : ∃ E, pshs D c ((low y n).take k) = E := ⟨_, rfl⟩
      have hnext : Hid (pshs D c ((low y n).take (k + 1)) = psh E (c + k) x) := hidden (by rw [htk, pshs_snoc, hE, List.length_take, hll, Nat.min_eq_left (by omega)])
      rw [hE] at hT
      obtain ⟨d, hd⟩ : ∃ d, c + k = d := ⟨_, rfl⟩
      rw [hd] at hT hnext
      have hdl : d ≤ 600000 := by omega
      replace hd := hidden hd
      have hW := hT.out.wf
      have hO := hT.out.own
      have HB := hT.out.blk
      have hne := hT.out.ne
      have hwf := hidden (hW.psh hx01)
      have hps := psh_set hW x hx01
      have hav := addv_bd d x hx01
      have hpb := psh_byte hW
      have hlen := pshD_len hW
      have hroom := psh_room hW
      have hbit := psh_bit hW
      have hl : E.length ≤ 80000 := by have := hW.len; omega
      obtain ⟨P, hP⟩ : ∃ P, addv d x = P := ⟨_, rfl⟩
      have hP' : x * 2 ^ (7 - d % 8) = P := hP
      rw [hP] at hps hav
      obtain ⟨a0, a1⟩ := hav
      have hp128 : (2 : Int) ^ (7 - d % 8) ≤ 128 := by
        have := Nat.pow_le_pow_right (show 0 < 2 by decide) (show 7 - d % 8 ≤ 7 by omega)
        have h3 : ((2 ^ (7 - d % 8) : Nat) : Int) ≤ ((2 ^ 7 : Nat) : Int) := Int.ofNat_le.mpr this
        simpa using h3
      have a2 : P ≤ 128 := by omega
      have c0 := HB.cell 0 _ rfl
      have c1 := HB.cell 1 _ rfl
      have f0 := HB.frozen 0
      have f1 := HB.frozen 1
      have h10 : (0 : Int) ≤ (d : Int) % 8 := by omega
      have h11 : (d : Int) % 8 < 8 := by omega
      have h12 : (7 - (d : Int) % 8).toNat = 7 - d % 8 := by omega
      have h13 : ((d : Int) / 8).toNat = d / 8 := by omega
      have h14 : (0 : Int) ≤ 7 - (d : Int) % 8 := by omega
      replace hps := hidden hps
      replace hO := hidden hO
      replace HB := hidden HB
      replace hW := hidden hW
      replace hbit := hidden hbit
      replace hx := hidden hx
      replace hdb := hidden hdb
      replace hE := hidden hE
      replace htk := hidden htk
      replace htn := hidden htn
      replace hx01 := hidden hx01
      replace hP := hidden hP
      clear z2
      by_cases hm : d % 8 = 0
      · have k1 : ((d : Int) % 8 == 0) = true := by simp; omega
        have e1 : pshD E d = E ++ [0] := by unfold pshD; rw [if_pos hm]
        have hbit := hbit.out
        rw [e1] at hpb hlen hroom hbit
        obtain ⟨D1, hD1⟩ : ∃ u, E ++ [0] = u := ⟨_, rfl⟩
        rw [hD1] at hpb hlen hroom hbit e1
        have hlD1 : D1.length = E.length + 1 := by rw [← hD1]; simp
        have hlD1 := hidden hlD1
        have e1 := hidden e1
        have hD1 := hidden hD1
        clear hlen
        obtain ⟨x0, hx0⟩ : ∃ y, D1.getD (d / 8) 0 = y := ⟨_, rfl⟩
        have hx0 := hidden hx0
        rw [hx0.out] at hpb hbit
        obtain ⟨x1, x2⟩ := hpb
        have x3 : x0 + P ≤ 255 := by omega
        have hor := or_addv x0 x (d % 8) x1 (by omega) (by omega) hx01.out hbit
        rw [hP'] at hor
        replace hbit := hidden hbit
        have Hm := hidden hm
        clear hm
        have q0 := (Blk.new W [.int .u8 0] 5).cell 0 _ rfl
        have hsB : B ≤ (W.alloc (.cells #[.int .u8 0] 5)).heap.size := by rw [World.size_alloc]; omega
        go_wp2_with (at_builtin; refine wpList_append1 (by rfl) _ _ (by rfl) B v' E 0 W.heap.size (Own8.grown hO.out _) (by rfl) (by rfl) q0 (by omega) hsB ?_; intro g cap w1 hown hgrow hat hlt1; have B1 := (HB.out.alloc (.cells #[.int .u8 0] 5)).grown hgrow hne; have e0 := B1.cell 0 _ rfl; have e1' := B1.cell 1 _ rfl; have g0 := B1.frozen 0; have g1 := B1.frozen 1)
        have hgp : g ≠ p := by
          intro e
          have := own_ne_blk hown B1 (by decide)
          exact this (by simp [Value.ownBlock, e])
        rw [hD1.out] at hown
        have CA := ((Chg.refl (p :: v'.ownBlock.toList) W).alloc (.cells #[.int .u8 0] 5)).grown hgrow (fun k hk => Or.inl (by rw [hk]; simp))
        have B2 := B1.set 0 (.slice (some ⟨g, 0, none⟩) (E.length + 1) cap)
        have O2 := own_chg hown ((Chg.refl [p] w1).setCell (p := ⟨p, 0, none⟩) (Or.inl (by simp)) (.slice (some ⟨g, 0, none⟩) (E.length + 1) cap)) (by intro y hy; simp at hy; subst hy; simpa [Value.ownBlock] using hgp)
        have C2 := CA.setCell (p := ⟨p, 0, none⟩) (Or.inl (by simp)) (.slice (some ⟨g, 0, none⟩) (E.length + 1) cap)
        have hatW : v'.ownBlock = some g ∨ W.heap.size ≤ g := by
          rcases hat with h | h
          · exact Or.inl h
          · rw [World.size_alloc] at h; exact Or.inr (by omega)
        obtain ⟨W2, hW2⟩ : ∃ Z, w1.setCell ⟨p, 0, none⟩ (.slice (some ⟨g, 0, none⟩) (E.length + 1) cap) = Z := ⟨_, rfl⟩
        rw [hW2] at B2 O2 C2
        rw [hW2]
        have O2 : Own8 W2 B (.slice (some ⟨g, 0, none⟩) (E.length + 1) cap) D1 := O2
        clear hW2 CA hgrow hown B1 e0 e1' g0 g1 hat
        clear c0 c1 f0 f1 q0 hsB
        have y4 : (d : Int) / 8 < (E.length : Int) + 1 := by have := hlD1.out; omega
        obtain ⟨m, hm⟩ : ∃ m, E.length + 1 = m := ⟨_, rfl⟩
        have y4 : (d : Int) / 8 < (m : Int) := by omega
        rw [hm] at B2 O2 ⊢
        have hm70 : m ≤ 90000 := by omega
        replace hm := hidden hm
        replace B2 : Blk W2 p 93 [.slice (some ⟨g, 0, none⟩) m cap, .int .i64 (d : Int), .int .i64 a] := B2
        have z3 := B2.cell 0 _ rfl
        have z4 := B2.cell 1 _ rfl
        have z5' := Rd8.at O2.rd (d / 8) hroom
        rw [hx0.out, Nat.zero_add] at z5'
        have y1 : IntKind.i64.wrap ((d : Int) / 8) = (d : Int) / 8 := IntWalk.i64_in _ (by omega)
        have y2 : IntKind.i64.wrap ((d : Int) % 8) = (d : Int) % 8 := IntWalk.i64_in _ (by omega)
        have y3 : (0 : Int) ≤ (d : Int) / 8 := by omega
        have y5 : (d : Int).tmod 8 = (d : Int) % 8 := Int.tmod_eq_emod_of_nonneg (by omega)
        have y7 : IntKind.u8.wrap P = P := IntWalk.u8_in _ (by omega)
        have y8 : IntKind.u8.wrap x = x := IntWalk.u8_in _ (by omega)
        have y9 : IntKind.i64.wrap (7 - (d : Int) % 8) = 7 - (d : Int) % 8 := IntWalk.i64_in _ (by omega)
        have y6 : IntKind.i64.wrap (y / 2 ^ t) = y / 2 ^ t := IntWalk.i64_in _ (by have := hdb.out; omega)
        have y10 : IntKind.i64.wrap x = x := IntWalk.i64_in _ (by omega)
        go_upto_region 5 with fail
        go_still_tail 28, (by kernel_rfl)
        change wpList _ _ _ _ _ W2.drew
        have B3 : Blk W2.drew p 93 [.slice (some ⟨g, 0, none⟩) m cap, .int .i64 (d : Int), .int .i64 a] := B2
        have O3 : Own8 W2.drew B (.slice (some ⟨g, 0, none⟩) m cap) D1 := O2
        have C3 : Chg (p :: v'.ownBlock.toList) W W2.drew := C2.drew
        clear z3 z4 z5'
        have z3 := B3.cell 0 _ rfl
        have z4 := B3.cell 1 _ rfl
        have z5 := B3.frozen 1
        have z6 := Rd8.at O3.rd (d / 8) hroom
        have z7 := O3.frozen (d / 8)
        rw [hx0.out, Nat.zero_add] at z6
        generalize W2.drew = W3 at *
        go_wp2_with fail
        have B4 := (B3.set_other (Ne.symm hgp) (i := d / 8) (.int .u8 (x0 + P))).set 1 (.int .i64 ((d : Int) + 1))
        have hC4 := (Chg.refl [p] (W3.setCell ⟨g, d / 8, none⟩ (.int .u8 (x0 + P)))).setCell (p := ⟨p, 1, none⟩) (Or.inl (by simp)) (.int .i64 ((d : Int) + 1))
        have O4 := own_chg (O3.set (d / 8) (x0 + P)) hC4 (by intro y hy; simp at hy; subst hy; simpa [Value.ownBlock] using hgp)
        have C4 := (C3.setCell (p := ⟨g, d / 8, none⟩) (by rcases hatW with h | h; exact Or.inl (by rw [h]; simp); exact Or.inr h) (.int .u8 (x0 + P))).setCell (p := ⟨p, 1, none⟩) (Or.inl (by simp)) (.int .i64 ((d : Int) + 1))
        have hS4 : Stays W v' (.slice (some ⟨g, 0, none⟩) m cap) := fun g0 hg0 => by simp [Value.ownBlock] at hg0; subst hg0; exact hatW
        have hfin : psh E d x = D1.set (d / 8) (x0 + P) := by rw [hps.out, e1.out, hx0.out]
        go_roundw
        case rel =>
          refine ⟨k + 1, .slice (some ⟨g, 0, none⟩) m cap, (t : Int) - 1, by omega, by go_num, hidden (by have := hz.out; omega), by omega, by omega, hidden ?_, hS.trans hS4 hsz, hS.chg hC C4⟩
          rw [hnext.out, show c + (k + 1) = d + 1 by have := hd.out; omega]
          refine ⟨?_, by rw [hfin]; exact O4, hwf.out⟩
          rw [Int.natCast_add]
          exact B4
        case measure => simp [intOf]
      · have k1 : ((d : Int) % 8 == 0) = false := by simp; omega
        have e1 : pshD E d = E := by unfold pshD; rw [if_neg hm]
        have hbit := hbit.out
        rw [e1] at hpb hlen hroom hbit
        have hlo : 0 < E.length := by omega
        have hsh := Own8.shape hO.out
        obtain ⟨g, cap, hv', hgB, hgl, hcap1, hcap2⟩ : ∃ g cap, v' = .slice (some ⟨g, 0, none⟩) E.length cap ∧ B ≤ g ∧ g < W.heap.size ∧ E.length ≤ cap ∧ cap ≤ 9223372036854775807 := by
          rcases hsh with ⟨-, hn⟩ | h
          · rw [hn] at hlo; simp at hlo
          · exact h
        have hatW : v'.ownBlock = some g ∨ W.heap.size ≤ g := Or.inl (by rw [hv']; rfl)
        have hgp : g ≠ p := by
          intro e
          exact hne (by rw [hv', e]; rfl)
        have O2 := hO.out
        have B2 := HB.out
        have C2 := Chg.refl (p :: v'.ownBlock.toList) W
        obtain ⟨D1, hD1⟩ : ∃ u, E = u := ⟨_, rfl⟩
        have e1 : Hid (pshD E d = D1) := hidden (by rw [e1, hD1])
        rw [hD1] at hpb hroom hbit hv'
        obtain ⟨m, hm2⟩ : ∃ m, D1.length = m := ⟨_, rfl⟩
        have y4 : (d : Int) / 8 < (m : Int) := by omega
        have hm70 : m ≤ 90000 := by rw [← hm2, ← hD1]; omega
        rw [hm2] at hv'
        replace hm2 := hidden hm2
        clear hlen hsh hlo hgl hcap1 hcap2
        obtain ⟨x0, hx0⟩ : ∃ y, D1.getD (d / 8) 0 = y := ⟨_, rfl⟩
        have hx0 := hidden hx0
        rw [hx0.out] at hpb hbit
        obtain ⟨x1, x2⟩ := hpb
        have x3 : x0 + P ≤ 255 := by omega
        have hor := or_addv x0 x (d % 8) x1 (by omega) (by omega) hx01.out hbit
        rw [hP'] at hor
        replace hbit := hidden hbit
        have Hm := hidden hm
        clear hm
        have hV : Hid (v'.ownBlock = some g) := hidden (by rw [hv']; rfl)
        rw [hv'] at O2 B2 c0
        replace O2 : Own8 W B (.slice (some ⟨g, 0, none⟩) m cap) D1 := by rw [← hD1]; exact O2
        replace hv' := hidden hv'
        replace hD1 := hidden hD1
        have z3 := B2.cell 0 _ rfl
        have z4 := B2.cell 1 _ rfl
        have z5' := Rd8.at O2.rd (d / 8) hroom
        rw [hx0.out, Nat.zero_add] at z5'
        have y1 : IntKind.i64.wrap ((d : Int) / 8) = (d : Int) / 8 := IntWalk.i64_in _ (by omega)
        have y2 : IntKind.i64.wrap ((d : Int) % 8) = (d : Int) % 8 := IntWalk.i64_in _ (by omega)
        have y3 : (0 : Int) ≤ (d : Int) / 8 := by omega
        have y5 : (d : Int).tmod 8 = (d : Int) % 8 := Int.tmod_eq_emod_of_nonneg (by omega)
        have y7 : IntKind.u8.wrap P = P := IntWalk.u8_in _ (by omega)
        have y8 : IntKind.u8.wrap x = x := IntWalk.u8_in _ (by omega)
        have y9 : IntKind.i64.wrap (7 - (d : Int) % 8) = 7 - (d : Int) % 8 := IntWalk.i64_in _ (by omega)
        have y6 : IntKind.i64.wrap (y / 2 ^ t) = y / 2 ^ t := IntWalk.i64_in _ (by have := hdb.out; omega)
        have y10 : IntKind.i64.wrap x = x := IntWalk.i64_in _ (by omega)
        go_upto_region 5 with fail
        go_still_tail 28, (by kernel_rfl)
        change wpList _ _ _ _ _ W.drew
        have B3 : Blk W.drew p 93 [.slice (some ⟨g, 0, none⟩) m cap, .int .i64 (d : Int), .int .i64 a] := B2
        have O3 : Own8 W.drew B (.slice (some ⟨g, 0, none⟩) m cap) D1 := O2
        have C3 : Chg (p :: v'.ownBlock.toList) W W.drew := C2.drew
        clear z3 z4 z5'
        have z3 := B3.cell 0 _ rfl
        have z4 := B3.cell 1 _ rfl
        have z5 := B3.frozen 1
        have z6 := Rd8.at O3.rd (d / 8) hroom
        have z7 := O3.frozen (d / 8)
        rw [hx0.out, Nat.zero_add] at z6
        generalize W.drew = W3 at *
        go_wp2_with fail
        have B4 := (B3.set_other (Ne.symm hgp) (i := d / 8) (.int .u8 (x0 + P))).set 1 (.int .i64 ((d : Int) + 1))
        have hC4 := (Chg.refl [p] (W3.setCell ⟨g, d / 8, none⟩ (.int .u8 (x0 + P)))).setCell (p := ⟨p, 1, none⟩) (Or.inl (by simp)) (.int .i64 ((d : Int) + 1))
        have O4 := own_chg (O3.set (d / 8) (x0 + P)) hC4 (by intro y hy; simp at hy; subst hy; simpa [Value.ownBlock] using hgp)
        have C4 := (C3.setCell (p := ⟨g, d / 8, none⟩) (by rcases hatW with h | h; exact Or.inl (by rw [h]; simp); exact Or.inr h) (.int .u8 (x0 + P))).setCell (p := ⟨p, 1, none⟩) (Or.inl (by simp)) (.int .i64 ((d : Int) + 1))
        have hS4 : Stays W v' (.slice (some ⟨g, 0, none⟩) m cap) := fun g0 hg0 => by simp [Value.ownBlock] at hg0; subst hg0; exact hatW
        have hfin : psh E d x = D1.set (d / 8) (x0 + P) := by rw [hps.out, e1.out, hx0.out]
        go_roundw
        case rel =>
          refine ⟨k + 1, .slice (some ⟨g, 0, none⟩) m cap, (t : Int) - 1, by omega, by go_num, hidden (by have := hz.out; omega), by omega, by omega, hidden ?_, hS.trans hS4 hsz, hS.chg hC C4⟩
          rw [hnext.out, show c + (k + 1) = d + 1 by have := hd.out; omega]
          refine ⟨?_, by rw [hfin]; exact O4, hwf.out⟩
          rw [Int.natCast_add]
          exact B4
        case measure => simp [intOf]
    · obtain rfl : k = n := by omega
      have z3 : z = -1 := by have := hz.out; omega
      subst z3
      have hfin := hT.out
      rw [List.take_of_length_le (by rw [hll]; omega)] at hfin
      replace hfin := hidden hfin
      clear hT
      go_wp2_with fail
      go_end0
      refine ⟨rfl, v', ?_, hS, hC⟩
      rw [hll]
      exact hfin.out
end Go.Proofs.Ytjfdmhdmadnkoaa
