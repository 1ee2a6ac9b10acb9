/- The encoder's step. -/
import Derived.Test.YtnodnfmgklkjeaaCa
import Derived.Deep.DeepCutAuto
import Derived.Deep.RegionLaw
namespace Go.Proofs.Ytnodnfmgklkjeaa
open Go.RowKit
set_option linter.unusedVariables false
attribute [local go_sem ↓] Go.wp_at_zero Go.wp_at_succ

theorem u8info : (Try.prog.info? 5).map (fun i => (i.zero, i.size, i.bytes)) = some (some (.int .u8 0), 1, 1) := by kernel_rfl

/-- carry, whatever the bytes are. -/
theorem carry_any (p B : Nat) (x y v : Value) (l : List Int) (hb : Bytes l) (hpg : v.ownBlock ≠ some p) (hl : l.length ≤ 1000000) (w : World) (hB : Blk w p 77 [x, y, v])
    (hO : Own8 w B v l) :
    Calls Try.prog 50 #[.pointer (some ⟨p, 0, none⟩)] w fun e w' =>
      e = .returned (.tuple #[]) ∧ Blk w' p 77 [x, y, v] ∧ Own8 w' B v (carryL l) ∧ Chg v.ownBlock.toList w w' := by
  rcases hO.shape with ⟨rfl, rfl⟩ | ⟨g, cap, rfl, h1, h2, h3, h4⟩
  · have hc := hB.cell 2 _ rfl
    go_enter Try.func50, Try.ntmps50
    go_step3
    go_wp2_with fail
    go_step3
    go_wp2_with fail
    refine wp_loop_rounds 1 ?_
    rw [rounds_succ]
    go_wp2_with fail
    simp only [Exit.noGoto]
    go_end0
    exact ⟨rfl, hB, hO, Chg.refl _ _⟩
  · have hne : p ≠ g := fun e => hpg (by rw [e]; rfl)
    refine (carry_some p g cap B x y l hb hne hl w hB hO).mono fun e w' ⟨a, b, c⟩ => ⟨a, hB.chg c (by simpa using hne), b, c⟩

set_option maxHeartbeats 1000000 in
theorem encode_any (p B : Nat) (wd lo bit pr : Int) (v : Value) (l : List Int) (hb : Bytes l) (hpg : v.ownBlock ≠ some p) (hl : l.length ≤ 900000) (h0 : 16777216 ≤ wd) (h1 : wd ≤ 4294967295) (hl0 : 0 ≤ lo) (hl1 : lo ≤ 4294967295) (hp0 : 1 ≤ pr) (hp1 : pr ≤ 4095)
    (w : World) (hBw : B ≤ w.heap.size) (hB : Blk w p 77 [.int .u32 wd, .int .u64 lo, v]) (hO : Own8 w B v l) :
    Calls Try.prog 37 #[.pointer (some ⟨p, 0, none⟩), .int .i64 bit, .int .i64 pr] w fun e w' =>
      e = .returned (.tuple #[]) ∧ ∃ v', Blk w' p 77 [.int .u32 (enc wd lo l bit pr).1, .int .u64 (enc wd lo l bit pr).2.1, v'] ∧ Own8 w' B v' (enc wd lo l bit pr).2.2 ∧ v'.ownBlock ≠ some p ∧ Chg (p :: v.ownBlock.toList) w w' := by
  have hc1 := hB.cell 1 _ rfl
  have hf1 := hB.frozen 1
  have hcond : 0 ≤ (if bit = 1 then 0 else wd / 4096 * pr) ∧ (if bit = 1 then 0 else wd / 4096 * pr) ≤ 4294967295 := by
    have := bound_bd wd pr (by omega) h1 (by omega) hp1
    split <;> omega
  obtain ⟨bd, hbd⟩ : ∃ bd, (if bit = 1 then 0 else wd / 4096 * pr) = bd := ⟨_, rfl⟩
  rw [hbd] at hcond
  obtain ⟨hd0, hd1⟩ := hcond
  have ey : 4294967296 ≤ lo + bd → encLo wd lo pr bit = lo + bd - 4294967296 ∧ encL wd lo pr bit l = carryL l := by
    intro h
    unfold encLo encL
    by_cases hbit : bit = 1
    · rw [if_pos hbit] at hbd; omega
    · rw [if_neg hbit] at hbd
      rw [if_neg hbit, if_neg hbit, hbd, if_pos h]
      exact ⟨by omega, rfl⟩
  have en : ¬ 4294967296 ≤ lo + bd → encLo wd lo pr bit = lo + bd ∧ encL wd lo pr bit l = l := by
    intro h
    unfold encLo encL
    by_cases hbit : bit = 1
    · rw [if_pos hbit] at hbd
      rw [if_pos hbit, if_pos hbit]
      exact ⟨by omega, rfl⟩
    · rw [if_neg hbit] at hbd
      rw [if_neg hbit, if_neg hbit, hbd, if_neg h]
      exact ⟨by omega, rfl⟩
  have Ey := hidden ey
  have En := hidden en
  have Hbd := hidden hbd
  clear hbd ey en
  have hw1 : IntKind.u64.wrap bd = bd := IntWalk.u64_in _ (by omega)
  have hw2 : IntKind.u64.wrap (lo + bd) = lo + bd := IntWalk.u64_in _ (by omega)
  go_enter Try.func37, Try.ntmps37
  go_upto_region 0 with fail
  go_cut [] (fun wx => Blk wx p 77 [.int .u32 (encWd wd pr bit), .int .u64 (lo + bd), v] ∧ Chg [p] w wx)
  case first =>
    go_region_with (go_at_call 49; refine (narrow_any p _ wd bit pr _ _ (by omega) h1 (by omega) hp1 _ hB.drew).mono ?_; rw [Hbd.out]; rintro e w1 ⟨rfl, hB1, hC1⟩; have k1 := hB1.cell 1 _ rfl; have k2 := hB1.frozen 1)
    all_goals
      go_wp2_with fail
      go_meet
      exact ⟨hB1.set 1 _, ((Chg.refl [p] w).drew.trans hC1 (by simp)).setCell (Or.inl (by simp)) _⟩
  case rest =>
    obtain ⟨hBc, hCc⟩ := hcut
    have kc1 := hBc.cell 1 _ rfl
    have kf1 := hBc.frozen 1
    have hOc : Own8 wc B v l := own_chg hO hCc (by simpa using hpg)
    go_upto_if 24 with fail
    go_cut [] (fun wx => Blk wx p 77 [.int .u32 (encWd wd pr bit), .int .u64 (encLo wd lo pr bit), v] ∧ Own8 wx B v (encL wd lo pr bit l) ∧ Chg (p :: v.ownBlock.toList) w wx)
    case first =>
      by_cases hge : 4294967296 ≤ lo + bd
      · go_wp2_with fail
        refine (carry_any p B _ _ v l hb hpg (by omega) _ (hBc.set 1 _) (ownsRow_setCell_other hOc hpg _)).mono ?_
        rintro e w2 ⟨rfl, hB2, hO2, hC2⟩
        go_wp2_with fail
        go_meet
        have h := Ey.out hge
        rw [h.1, h.2]
        exact ⟨hB2, hO2, ((hCc.mono (by simp)).setCell (Or.inl (by simp)) _).trans hC2 (fun x hx => Or.inl (List.mem_cons_of_mem _ hx))⟩
      · go_wp2_with fail
        go_meet
        have h := En.out hge
        rw [h.1, h.2]
        exact ⟨hBc, hOc, hCc.mono (by simp)⟩
    case rest =>
      obtain ⟨hB3, hO3, hC3⟩ := hcut
      have hlen3 : (encL wd lo pr bit l).length = l.length := by unfold encL; split; rfl; split; exact carryL_len l; rfl
      have hlo3 : 0 ≤ encLo wd lo pr bit ∧ encLo wd lo pr bit ≤ 4294967295 := by
        by_cases hge : 4294967296 ≤ lo + bd
        · have := (Ey.out hge).1; omega
        · have := (En.out hge).1; omega
      have hb3 : Bytes (encL wd lo pr bit l) := by unfold encL; split; exact hb; split; exact carryL_bytes hb; exact hb
      have hwb := encWd_bd wd pr bit h0 h1 hp0 hp1
      go_wp2_with fail
      go_loopg [] 3 (fun k wr => ∃ wd' lo' v' l', Blk wr p 77 [.int .u32 wd', .int .u64 lo', v'] ∧ Own8 wr B v' l' ∧ Bytes l' ∧ l'.length + k ≤ 900003 ∧ v'.ownBlock ≠ some p ∧ (v'.ownBlock = v.ownBlock ∨ ∃ x, v'.ownBlock = some x ∧ w.heap.size ≤ x) ∧ Chg (p :: v.ownBlock.toList) w wr ∧
        0 < wd' ∧ wd' ≤ 4294967295 ∧ 0 ≤ lo' ∧ lo' ≤ 4294967295 ∧ Hid (shN k wd' lo' l' = enc wd lo l bit pr ∧ 16777216 ≤ wd' * 256 ^ k))
      case atStart => exact ⟨_, _, v, _, hB3, hO3, hb3, by omega, hpg, Or.inl rfl, hC3, by omega, hwb.2, hlo3.1, hlo3.2, ⟨rfl, by omega⟩⟩
      case round =>
        obtain ⟨wd', lo', v', l', hBr, hOr, hbr, hlr, hpr, hvr, hCr, a0, a1, a2, a3, hq⟩ := hrel
        have r0 := hBr.cell 0 _ rfl
        have r1 := hBr.cell 1 _ rfl
        have r2 := hBr.cell 2 _ rfl
        have f0 := hBr.frozen 0
        have f1 := hBr.frozen 1
        have f2 := hBr.frozen 2
        by_cases hs : wd' < 16777216
        · have hsm : decide (wd' < 16777216) = true := by simp [hs]
          obtain ⟨k, rfl⟩ : ∃ k, gk = k + 1 := by
            cases gk with
            | zero => have := hq.out.2; simp at this; omega
            | succ k => exact ⟨k, rfl⟩
          go_wp2_with fail
          refine (small_any _ _).mono ?_
          rintro e w4 ⟨rfl, g4⟩
          have hB4 := hBr.ext g4
          have r40 := hB4.cell 0 _ rfl
          have r41 := hB4.cell 1 _ rfl
          have r42 := hB4.cell 2 _ rfl
          have f40 := hB4.frozen 0
          have f41 := hB4.frozen 1
          have f42 := hB4.frozen 2
          have hO4 : Own8 w4 B v' l' := own_ext hOr g4
          obtain ⟨i0, hi, hz0, hz1, hz2⟩ := info_parts u8info
          have hpl := hB4.lt
          have hbase : B ≤ w4.heap.size := by have := hCr.size; have := g4.size; omega
          have hw3 : IntKind.u8.wrap (lo' / 16777216) = lo' / 16777216 := IntWalk.u8_in _ (by omega)
          go_upto_region 5 with fail
          go_cut [] (fun wx => ∃ g cap, Blk wx p 77 [.int .u32 wd', .int .u64 lo', .slice (some ⟨g, 0, none⟩) (l'.length + 1) cap] ∧ wx.ownsRow B 5 1 (.slice (some ⟨g, 0, none⟩) (l'.length + 1) cap) (l'.length + 1) (bs l' ++ [.int .u8 (lo' / 16777216)]) ∧ (v'.ownBlock = some g ∨ w4.heap.size ≤ g) ∧ g ≠ p ∧ Chg (p :: v'.ownBlock.toList) w4 wx)
          case first =>
            go_region_law (first | (refine step_append_lies _ (by rfl) _ _ _ (by rfl) B 5 i0 (.int .u8 0) 1 1 Try.underlying23 hi hz0 hz1 hz2 rfl (by decide) v' l'.length (bs l') (by rfl) ((World.ownsRow.alloc hO4 _).drew) ⟨w4.heap.size, 0, none⟩ 1 1 [.int .u8 (lo' / 16777216)] (by rfl) (by rfl) (World.news_of_block (cs := #[.int .u8 (lo' / 16777216)]) (t := 5) (fr := (0, 0)) (heap_alloc_new w4 _)) (by simp [Value.oneCell']) (by omega) (by unfold maxLen; omega) (by omega) (by simp; omega) (w4.heap.size + 1) (by simp) ?_; intro gg cap w1 hown1 hgrow hat hlt; have q1 := ((hB4.alloc (.cells #[.int .u8 (lo' / 16777216)] 5)).drew).grown hgrow hpr; have q2 := q1.cell 2 _ rfl; have q3 := q1.frozen 2))
            all_goals
              go_wp2_with fail
              go_meet
              have hgp : gg ≠ p := by
                rcases hat with h | h
                · rw [h] at hpr; exact fun e => hpr (by rw [e])
                · omega
              refine ⟨gg, cap, q1.set 2 _, ownsRow_setCell_other hown1 (by simpa [Value.ownBlock] using hgp) _, by rcases hat with h | h; exact Or.inl h; exact Or.inr (by omega), hgp, ?_⟩
              exact ((((Chg.refl _ w4).alloc _).drew).grown hgrow (fun k hk => Or.inl (by rw [hk]; simp))).setCell (Or.inl (by simp)) _
          case rest =>
            obtain ⟨gg, cap, hB5, hO5, hat, hgp, hC5⟩ := hcut
            have r50 := hB5.cell 0 _ rfl
            have r51 := hB5.cell 1 _ rfl
            have f50 := hB5.frozen 0
            have f51 := hB5.frozen 1
            go_wp2_with fail
            go_roundg k
            case measure => omega
            case rel =>
              refine ⟨wd' * 256, lo' * 256 % 4294967296, _, l' ++ [lo' / 16777216], (hB5.set 1 _).set 0 _, ?_, hbr.snoc (by omega) (by omega), by simp; omega, by simpa [Value.ownBlock] using hgp, ?_, ?_, by omega, by omega, by omega, by omega, ?_⟩
              · have h5 := ownsRow_setCell_other (a := ⟨p, 0, none⟩) (ownsRow_setCell_other (a := ⟨p, 1, none⟩) hO5 (by simpa [Value.ownBlock] using hgp) (.int .u64 (lo' * 256 % 4294967296))) (by simpa [Value.ownBlock] using hgp) (.int .u32 (wd' * 256))
                unfold Own8
                rw [bs_app, List.length_append]
                exact h5
              · have hsz := g4.size
                have hsr := hCr.size
                rcases hat with h | h
                · rcases hvr with h' | ⟨x, h', h''⟩
                  · exact Or.inl (by rw [← h', h]; rfl)
                  · rw [h] at h'; exact Or.inr ⟨x, h', h''⟩
                · exact Or.inr ⟨gg, rfl, by omega⟩
              · have c1 := (hCr.trans (Chg.of_ext [] g4) (by simp)).trans hC5 (by
                  intro x hx
                  rcases List.mem_cons.1 hx with rfl | hx
                  · exact Or.inl (by simp)
                  · rcases hvr with h' | ⟨y, h', h''⟩
                    · rw [h'] at hx; exact Or.inl (List.mem_cons_of_mem _ hx)
                    · rw [h'] at hx; simp at hx; subst hx; exact Or.inr h'')
                exact (c1.setCell (Or.inl (by simp)) _).setCell (Or.inl (by simp)) _
              · have h := hq.out
                rw [shN_small _ _ _ _ hs, Int.emod_eq_of_lt (by omega) (by omega)] at h
                refine ⟨h.1, ?_⟩
                have h2 := h.2
                rw [Int.pow_succ, Int.mul_comm (256 ^ k), ← Int.mul_assoc] at h2
                exact h2
        · have hsm : decide (wd' < 16777216) = false := by simp; omega
          go_wp2_with fail
          refine (small_any _ _).mono ?_
          rintro e w4 ⟨rfl, g4⟩
          go_wp2_with fail
          go_end0
          have he := hq.out.1
          rw [shN_stop _ _ _ _ (by omega)] at he
          rw [← he]
          exact ⟨rfl, v', hBr.ext g4, own_ext hOr g4, hpr, hCr.trans (Chg.of_ext [] g4) (by simp)⟩

end Go.Proofs.Ytnodnfmgklkjeaa
