/- The decoder's step. -/
import Derived.Test.YtnodnfmgklkjeaaCf
namespace Go.Proofs.Ytnodnfmgklkjeaa
open Go.RowKit
set_option linter.unusedVariables false
attribute [local go_sem ↓] Go.wp_at_zero Go.wp_at_succ

def deN : Nat → Int → Int → List Int → Int × Int × List Int
  | 0, wd, c, l => (wd, c, l)
  | k + 1, wd, c, l => if wd < 16777216 then deN k (wd * 256 % 4294967296) (shC c l) l.tail else (wd, c, l)
theorem deN_stop (k : Nat) (wd c : Int) (l : List Int) (h : 16777216 ≤ wd) : deN k wd c l = (wd, c, l) := by
  cases k
  · rfl
  · unfold deN; rw [if_neg (by omega)]
theorem deN_small (k : Nat) (wd c : Int) (l : List Int) (h : wd < 16777216) : deN (k + 1) wd c l = deN k (wd * 256 % 4294967296) (shC c l) l.tail := by
  conv => lhs; unfold deN
  rw [if_pos h]
def decBit (wd c p : Int) : Int := if c < wd / 4096 * p then 1 else 0
def decC (wd c p : Int) : Int := if c < wd / 4096 * p then c else (c - wd / 4096 * p) % 4294967296
def dec (wd c : Int) (l : List Int) (p : Int) : Int × Int × List Int := deN 3 (encWd wd p (decBit wd c p)) (decC wd c p) l
theorem shC_bd (c : Int) (l : List Int) : 0 ≤ shC c l ∧ shC c l ≤ 4294967295 := by unfold shC; omega
theorem Bytes.tail {l : List Int} (h : Bytes l) : Bytes l.tail := fun x hx => h x (List.mem_of_mem_tail hx)

set_option maxHeartbeats 1000000 in
theorem decode_any (p : Nat) (wd c pr : Int) (v : Value) (l : List Int) (hb : Bytes l) (hpg : 0 < l.length → v.ownBlock ≠ some p) (h0 : 16777216 ≤ wd) (h1 : wd ≤ 4294967295) (hl0 : 0 ≤ c) (hl1 : c ≤ 4294967295) (hp0 : 1 ≤ pr) (hp1 : pr ≤ 4095)
    (w : World) (hB : Blk w p 83 [.int .u32 wd, .int .u32 c, v]) (hR : Rd8 w v l) :
    Calls Try.prog 41 #[.pointer (some ⟨p, 0, none⟩), .int .i64 pr] w fun e w' =>
      e = .returned (.int .i64 (decBit wd c pr)) ∧ ∃ v', Blk w' p 83 [.int .u32 (dec wd c l pr).1, .int .u32 (dec wd c l pr).2.1, v'] ∧ Rd8 w' v' (dec wd c l pr).2.2 ∧ (0 < (dec wd c l pr).2.2.length → v'.ownBlock ≠ some p) ∧ Chg [p] w w' := by
  have hc0 := hB.cell 0 _ rfl
  have hc1 := hB.cell 1 _ rfl
  obtain ⟨q0, q1, q2⟩ := bound_bd wd pr (by omega) h1 (by omega) hp1
  go_enter Try.func41, Try.ntmps41
  go_upto_region 2 with fail
  go_cut [16] (fun s wx => s = .bool (decide (c < wd / 4096 * pr)) ∧ Ext w wx)
  case first =>
    go_region_with (go_at_call 52; refine (bound_any wd pr (by omega) h1 (by omega) hp1 _).mono ?_; rintro e w1 ⟨rfl, g1⟩; have k0 := (hB.drew.ext g1).cell 0 _ rfl; have k1 := (hB.drew.ext g1).cell 1 _ rfl)
    all_goals
      go_wp2_with fail
      go_meet
      exact ⟨rfl, g1.past_drew⟩
  case rest =>
    obtain ⟨rfl, gE⟩ := hcut
    have hBc := hB.ext gE
    go_upto_if 16 with fail
    go_cut [5] (fun s wx => s = .int .i64 (decBit wd c pr) ∧ Ext w wx)
    case first =>
      by_cases hlt : c < wd / 4096 * pr
      · have hd : decBit wd c pr = 1 := if_pos hlt
        have HD := hidden hd
        clear hd
        go_wp2_with fail
        go_meet
        exact ⟨by rw [HD.out], gE⟩
      · have hd : decBit wd c pr = 0 := if_neg hlt
        have HD := hidden hd
        clear hd
        go_wp2_with fail
        go_meet
        exact ⟨by rw [HD.out], gE⟩
    case rest =>
      obtain ⟨rfl, gF⟩ := hcut
      have hBd := hB.ext gF
      have d1 := hBd.cell 1 _ rfl
      have hRd := hR.ext gF
      obtain ⟨bt, hbt⟩ : ∃ bt, decBit wd c pr = bt := ⟨_, rfl⟩
      have hcc : c - (if bt = 1 then 0 else wd / 4096 * pr) = decC wd c pr ∧ 0 ≤ decC wd c pr ∧ decC wd c pr ≤ 4294967295 := by
        unfold decBit at hbt
        unfold decC
        by_cases hlt : c < wd / 4096 * pr
        · rw [if_pos hlt] at hbt; rw [if_pos hlt, if_pos hbt.symm]; omega
        · rw [if_neg hlt] at hbt; rw [if_neg hlt, if_neg (by omega)]; omega
      obtain ⟨bd, hbd⟩ : ∃ bd, (if bt = 1 then 0 else wd / 4096 * pr) = bd := ⟨_, rfl⟩
      have hbdb : 0 ≤ bd ∧ bd ≤ 4294967295 := by rw [← hbd]; split <;> omega
      rw [hbd] at hcc
      obtain ⟨hc2, hc3, hc4⟩ := hcc
      obtain ⟨cc, hcc⟩ : ∃ cc, decC wd c pr = cc := ⟨_, rfl⟩
      rw [hcc] at hc2 hc3 hc4
      have hwr : IntKind.u32.wrap (c - bd) = cc := by rw [IntWalk.u32_in _ (by omega)]; exact hc2
      have hde : Hid (dec wd c l pr = deN 3 (encWd wd pr bt) cc l) := by unfold dec; rw [hbt, hcc]; rfl
      have Hbd := hidden hbd
      have Hbt := hidden hbt
      clear hbd hbt hcc hc2
      rw [Hbt.out]
      go_upto_region 4 with fail
      go_cut [] (fun wx => Blk wx p 83 [.int .u32 (encWd wd pr bt), .int .u32 cc, v] ∧ Chg [p] w wx)
      case first =>
        go_region_with (go_at_call 49; refine (narrow_any p _ wd bt pr _ _ (by omega) h1 (by omega) hp1 _ hBd.drew).mono ?_; rw [Hbd.out]; rintro e w1 ⟨rfl, hB1, hC1⟩; have k1 := hB1.cell 1 _ rfl; have k2 := hB1.frozen 1)
        all_goals
          go_wp2_with fail
          go_meet
          exact ⟨hB1.set 1 _, (((Chg.of_ext [p] gF).drew.trans hC1 (by simp)).setCell (Or.inl (by simp)) _)⟩
      case rest =>
        obtain ⟨hB3, hC3⟩ := hcut
        have hR3 : Rd8 wc v l := Rd.chg hR hC3 (by intro x hx; simp at hx; subst hx; exact hpg)
        have hwb := encWd_bd wd pr bt h0 h1 hp0 hp1
        go_wp2_with fail
        go_loopg [] 3 (fun k wr => ∃ wd' c' v' l', Blk wr p 83 [.int .u32 wd', .int .u32 c', v'] ∧ Rd8 wr v' l' ∧ Bytes l' ∧ (0 < l'.length → v'.ownBlock ≠ some p) ∧ Chg [p] w wr ∧
          0 < wd' ∧ wd' ≤ 4294967295 ∧ 0 ≤ c' ∧ c' ≤ 4294967295 ∧ Hid (deN k wd' c' l' = dec wd c l pr ∧ 16777216 ≤ wd' * 256 ^ k))
        case atStart => exact ⟨_, _, v, _, hB3, hR3, hb, hpg, hC3, by omega, hwb.2, hc3, hc4, ⟨hde.out.symm, by omega⟩⟩
        case round =>
          obtain ⟨wd', c', v', l', hBr, hRr, hbr, hpr, hCr, a0, a1, a2, a3, hq⟩ := hrel
          have r0 := hBr.cell 0 _ rfl
          have f0 := hBr.frozen 0
          by_cases hs : wd' < 16777216
          · have hsm : decide (wd' < 16777216) = true := by simp [hs]
            obtain ⟨k, rfl⟩ : ∃ k, gk = k + 1 := by
              cases gk with
              | zero => have := hq.out.2; simp at this; omega
              | succ k => exact ⟨k, rfl⟩
            go_wp2_with fail
            refine (small_any _ _).mono ?_
            rintro e w4 ⟨rfl, g4⟩
            have hB4 := hBr.ext g4
            have r40 := hB4.cell 0 _ rfl
            have f40 := hB4.frozen 0
            go_wp2_with fail
            refine (shift_any p _ v' c' l' hbr a2 a3 hpr _ (hB4.set 0 _) (Rd.chg (hRr.ext g4) ((Chg.refl [p] w4).setCell (Or.inl (by simp)) _) (by intro x hx; simp at hx; subst hx; exact hpr))).mono ?_
            rintro e w5 ⟨rfl, v5, hB5, hR5, hp5, hC5⟩
            go_wp2_with fail
            go_roundg k
            case measure => omega
            case rel =>
              refine ⟨wd' * 256, shC c' l', v5, l'.tail, hB5, hR5, hbr.tail, hp5, ?_, by omega, by omega, (shC_bd _ _).1, (shC_bd _ _).2, ?_⟩
              · exact ((hCr.trans (Chg.of_ext [] g4) (by simp)).setCell (Or.inl (by simp)) _).trans hC5 (by simp)
              · have h := hq.out
                rw [deN_small _ _ _ _ hs, Int.emod_eq_of_lt (by omega) (by omega)] at h
                refine ⟨h.1, ?_⟩
                have h2 := h.2
                rw [Int.pow_succ, Int.mul_comm (256 ^ k), ← Int.mul_assoc] at h2
                exact h2
          · have hsm : decide (wd' < 16777216) = false := by simp; omega
            go_wp2_with fail
            refine (small_any _ _).mono ?_
            rintro e w4 ⟨rfl, g4⟩
            go_wp2_with fail
            go_ret
            have he := hq.out.1
            rw [deN_stop _ _ _ _ (by omega)] at he
            rw [← he, Hbt.out]
            exact ⟨ret_int rfl, v', hBr.ext g4, hRr.ext g4, hpr, hCr.trans (Chg.of_ext [] g4) (by simp)⟩

set_option maxHeartbeats 1000000 in
/-- The decoder's state, its bytes copied. -/
theorem state_any (p : Nat) (wd c : Int) (v : Value) (l : List Int) (hl : l.length ≤ 900000) (w : World) (hB : Blk w p 83 [.int .u32 wd, .int .u32 c, v]) (hR : Rd8 w v l) :
    Calls Try.prog 42 #[.pointer (some ⟨p, 0, none⟩)] w fun e w' =>
      ∃ a cap, e = .returned (.agg #[.int .u32 wd, .int .u32 c, .slice a l.length cap]) ∧ Rd8 w' (.slice a l.length cap) l ∧ (∀ x, x < w.heap.size → (Value.slice a l.length cap).ownBlock ≠ some x) ∧ Ext w w' := by
  have hBa := hB.alloc (.cells #[.int .u32 0, .int .u32 0, .slice none 0 0] 44)
  have hBn : Blk (w.alloc (.cells #[.int .u32 0, .int .u32 0, .slice none 0 0] 44)) w.heap.size 44 [.int .u32 0, .int .u32 0, .slice none 0 0] := Blk.new w _ _
  have hRa := (Rd.alloc hR (.cells #[.int .u32 0, .int .u32 0, .slice none 0 0] 44)).drew
  obtain ⟨a, cap, rfl, h1, h2, h3⟩ := Rd.shape hR
  have r0 := hBa.cell 0 _ rfl
  have r1 := hBa.cell 1 _ rfl
  have r2 := hBa.cell 2 _ rfl
  have n0 := hBn.cell 0 _ rfl
  have n1 := hBn.cell 1 _ rfl
  have n2 := hBn.cell 2 _ rfl
  have m0 := hBn.frozen 0
  have m1 := hBn.frozen 1
  have m2 := hBn.frozen 2
  have hpl := hB.lt
  have hne : p ≠ w.heap.size := by omega
  go_enter Try.func42, Try.ntmps42
  go_upto_region 1 with fail
  go_region_held3 (fun w' => w'.cell? ⟨p, 0, none⟩ = some (.int .u32 wd) ∧ w'.cell? ⟨p, 1, none⟩ = some (.int .u32 c) ∧ w'.cell? ⟨p, 2, none⟩ = some (.slice a l.length cap)) (first | go_keep | (refine ⟨?_, ?_, ?_⟩ <;> (repeat (first | exact k0 | exact k1 | exact k2 | refine set_other (by intro h; injection h with h; omega) ?_))))
    (first | (go_at_call 48; refine (clone_any _ l hl _ hRa).mono ?_; rintro e w1 ⟨v1, rfl, hO1, g1⟩; obtain ⟨a1, c1, rfl, s1, s2, s3⟩ := Rd.shape hO1.rd; have k0 := g1.cell r0; have k1 := g1.cell r1; have k2 := g1.cell r2; have z0 := g1.cell n0; have z1 := g1.cell n1; have z2 := g1.cell n2; have y0 := g1.frozen n0 m0; have y1 := g1.frozen n1 m1; have y2 := g1.frozen n2 m2))
  go_wp2_with fail
  refine bodyPost_ret (v := .agg #[.int .u32 wd, .int .u32 c, .slice a1 l.length c1]) (by simp [results, Try.results42, go_sem, z0, z1, z2]) rfl ?_
  have hgE : Chg [] w w1 := Chg.of_ext [] (g1.past_drew.past)
  have hC := ((hgE.setCell (p := ⟨w.heap.size, 0, none⟩) (Or.inr (Nat.le_refl _)) (.int .u32 wd)).setCell (p := ⟨w.heap.size, 1, none⟩) (Or.inr (Nat.le_refl _)) (.int .u32 c)).setCell (p := ⟨w.heap.size, 2, none⟩) (Or.inr (Nat.le_refl _)) (.slice a1 l.length c1)
  have hn : (Value.slice a1 l.length c1).ownBlock ≠ some w.heap.size := fun hx => by have := (own_lt hO1 hx).1; simp at this; omega
  exact ⟨a1, c1, rfl, Own8.rd (ownsRow_setCell_other (a := ⟨w.heap.size, 2, none⟩) (ownsRow_setCell_other (a := ⟨w.heap.size, 1, none⟩) (ownsRow_setCell_other (a := ⟨w.heap.size, 0, none⟩) hO1 hn (.int .u32 wd)) hn (.int .u32 c)) hn (.slice a1 l.length c1)), fun x hx he => by have := (own_lt hO1 he).1; simp at this; omega, hC.ext⟩

end Go.Proofs.Ytnodnfmgklkjeaa
