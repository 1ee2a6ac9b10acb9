/- The reference's Finish. -/
import Derived.Test.YtnodnfmgklkjeaaCj
namespace Go.Proofs.Ytnodnfmgklkjeaa
open Go.RowKit
set_option linter.unusedVariables false
attribute [local go_sem ↓] Go.wp_at_zero Go.wp_at_succ

theorem rFinish_bad (lo wd : Int) (v : Value) (l : List Int) (w : World) (h : Rd8 w v l) (hc : chk wd l.length ≠ 0) :
    Calls Try.prog 20 #[.agg #[.int .u32 lo, .int .u32 wd, v]] w fun x w' => BytesErr w (finB lo wd l) (finE lo wd l) x w' := by
  obtain ⟨a, cap, rfl, h1, h2, h3⟩ := Rd.shape h
  have W0R : Rd8 (w.alloc (.cells #[.int .u32 lo, .int .u32 wd, .slice a l.length cap] 25)) (.slice a l.length cap) l := Rd.alloc h _
  have W0E : Ext w (w.alloc (.cells #[.int .u32 lo, .int .u32 wd, .slice a l.length cap] 25)) := (Ext.refl w).alloc _
  obtain ⟨k, hk⟩ : ∃ k, chk wd l.length = k := ⟨_, rfl⟩
  have hz : (k != 0) = true := by rw [← hk]; simp [hc]
  have E1 : Hid (finE lo wd l = k) := hk
  have E2 : Hid (finB lo wd l = []) := by unfold finB; rw [if_pos hc]; rfl
  have Hk := hidden hk
  clear hc hk
  go_enter Try.func20, Try.ntmps20
  go_wp2_with fail
  refine (rcheck_any _ _ _ l _ W0R).mono ?_
  rw [Hk.out]
  rintro e w1 ⟨rfl, g1⟩
  go_wp2_with fail
  go_ret2
  rw [E1.out, E2.out]
  exact ⟨none, 0, rfl, Rd8.nil _, W0E.trans g1⟩

set_option maxHeartbeats 2000000 in
theorem rFinish_ok (lo wd : Int) (v : Value) (l : List Int) (hb : Bytes l) (hl0 : 0 ≤ lo) (hl1 : lo ≤ 4294967295) (hw1 : wd ≤ 4294967295) (w : World) (h : Rd8 w v l) (hc : chk wd l.length = 0) :
    Calls Try.prog 20 #[.agg #[.int .u32 lo, .int .u32 wd, v]] w fun x w' => BytesErr w (finB lo wd l) (finE lo wd l) x w' := by
  obtain ⟨a, cap, rfl, h1, h2, h3⟩ := Rd.shape h
  have W0B : Blk (w.alloc (.cells #[.int .u32 lo, .int .u32 wd, .slice a l.length cap] 25)) w.heap.size 25 [.int .u32 lo, .int .u32 wd, .slice a l.length cap] := Blk.new w _ _
  have W0R : Rd8 (w.alloc (.cells #[.int .u32 lo, .int .u32 wd, .slice a l.length cap] 25)) (.slice a l.length cap) l := Rd.alloc h _
  have W0E : Ext w (w.alloc (.cells #[.int .u32 lo, .int .u32 wd, .slice a l.length cap] 25)) := (Ext.refl w).alloc _
  obtain ⟨c1, c2⟩ := chk_zero hc
  have E1 : Hid (finE lo wd l = 0) := hc
  have E2 : Hid (finB lo wd l = trim (finL lo wd l)) := by unfold finB; rw [if_neg (by simp [hc])]; rfl
  have Hk := hidden hc
  clear hc
  go_enter Try.func20, Try.ntmps20
  go_wp2_with fail
  refine (rcheck_any _ _ _ l _ W0R).mono ?_
  rw [Hk.out]
  rintro e w1 ⟨rfl, g1⟩
  have W1B := W0B.ext g1
  have p2 := W1B.cell 2 _ rfl
  go_wp2_with fail
  refine (rbytes_any _ l (by omega) _ (W0R.ext g1)).mono ?_
  rintro e w2 ⟨v2, rfl, hO2, g2⟩
  have W2B := W1B.ext g2
  have p0 := W2B.cell 0 _ rfl
  have p1 := W2B.cell 1 _ rfl
  have e1 : lo = 0 → finL lo wd l = l := fun h => if_pos h
  have e2 : lo ≠ 0 → 4294967296 < lo + wd → finL lo wd l = carryL l := fun h h' => by unfold finL; rw [if_neg h, if_pos h']
  have e3 : lo ≠ 0 → ¬ 4294967296 < lo + wd → finL lo wd l = l ++ [(lo + 16777215) / 16777216] := fun h h' => by unfold finL; rw [if_neg h, if_neg h']
  have e4 := hidden e1
  have e5 := hidden e2
  have e6 := hidden e3
  clear e1 e2 e3
  have gE : Ext w w2 := (W0E.trans g1).trans g2
  go_upto_block 0 with fail
  go_cut [5] (fun s wx => ∃ B, Own8 wx B s (finL lo wd l) ∧ B ≤ wx.heap.size ∧ w.heap.size ≤ B ∧ Ext w wx)
  case first =>
    by_cases hz : lo = 0
    · have hzz : (lo == 0) = true := by simp [hz]
      have HZ := hidden hz
      clear hz
      go_wp2_with fail
      go_meet
      exact ⟨w1.heap.size, by rw [e4.out HZ.out]; exact hO2, g2.size, (W0E.trans g1).size, gE⟩
    · have hzz : (lo == 0) = false := by simp [hz]
      by_cases hg : 4294967296 < lo + wd
      · go_wp2_with fail
        refine (rcarry_any v2 l hb (by omega) _ (Own8.rd hO2)).mono ?_
        rintro e w5 ⟨v5, rfl, hO5, g5⟩
        go_wp2_with fail
        go_meet
        exact ⟨w2.heap.size, by rw [e5.out hz hg]; exact hO5, g5.size, gE.size, gE.trans g5⟩
      · obtain ⟨i0, hi, hz0, hz1, hz2⟩ := info_parts u8info
        have hO3 := World.ownsRow.alloc hO2 (.cells #[.int .u8 ((lo + 16777215) / 16777216)] 5)
        have hy : lo + 16777216 - 1 = lo + 16777215 := by omega
        have hs2 := g2.size
        go_wp2_with (at_builtin; refine wpList_append_lies _ rfl _ _ 23 rfl w1.heap.size 5 i0 (.int .u8 0) 1 1 Try.underlying23 hi hz0 hz1 hz2 rfl (by decide) v2 l.length (bs l) rfl hO3 ⟨w2.heap.size, 0, none⟩ 1 1 [.int .u8 ((lo + 16777215) / 16777216)] rfl rfl (World.news_of_block (cs := #[.int .u8 ((lo + 16777215) / 16777216)]) (t := 5) (fr := (0, 0)) (heap_alloc_new w2 _)) (by simp [Value.oneCell']) (by omega) (by unfold maxLen; omega) (by omega) (by simp; omega) (w2.heap.size + 1) (by simp) ?_; intro gg cp w5 hown1 hgrow hat hlt)
        go_meet
        have hsz : (w2.alloc (.cells #[.int .u8 ((lo + 16777215) / 16777216)] 5)).heap.size ≤ w5.heap.size := hgrow.size
        simp at hsz
        exact ⟨w1.heap.size, by rw [e6.out hz hg]; unfold Own8; rw [bs_app, List.length_append]; exact hown1, by omega, (W0E.trans g1).size, (((Chg.of_ext [] gE).alloc _).grown hgrow (fun k hk => Or.inr (by have := (own_lt hO2 hk).1; have := (W0E.trans g1).size; omega))).ext⟩
  case rest =>
    obtain ⟨B, hOB, hB1, hB2, gE2⟩ := hcut
    have hbf : Bytes (finL lo wd l) := by
      unfold finL
      split
      · exact hb
      · split
        · exact carryL_bytes hb
        · exact hb.snoc (by omega) (by omega)
    have hlf : (finL lo wd l).length ≤ l.length + 1 := by
      unfold finL
      split
      · omega
      · split
        · rw [carryL_len]; omega
        · simp
    obtain ⟨l0, hl0e⟩ : ∃ l0, finL lo wd l = l0 := ⟨_, rfl⟩
    rw [hl0e] at hOB hbf hlf
    have HL := hidden hl0e
    clear hl0e p0 p1 p2 W0B W1B W2B W0R hO2 gE g1 g2 W0E e4 e5 e6
    go_wp2_with fail
    go_loopg [5] l0.length (fun k s wr => ∃ lr, lr.length = k ∧ Own8 wr B s lr ∧ Bytes lr ∧ lr.length ≤ 900001 ∧ Ext w wr ∧ Hid (trim l0 = trim lr))
    case atStart => exact ⟨l0, rfl, hOB, hbf, by omega, gE2, rfl⟩
    case round =>
      obtain ⟨lr, rfl, hOr, hbr, hlr, gr, ht⟩ := hrel
      rcases list_snoc lr with hnil | ⟨m, x, hmx⟩
      · subst hnil
        obtain ⟨a, cap, rfl, -, -, -⟩ := Rd.shape hOr.rd
        have hO0 : wr.ownsRow B 5 1 (.slice a 0 cap) 0 [] := hOr
        go_wp2_with fail
        go_ret2
        rw [E1.out, E2.out, HL.out, ht.out, trim_nil]
        exact BytesErr.of_own (l := []) hO0 gr
      · obtain ⟨n, hn⟩ : ∃ n, m.length = n := ⟨_, rfl⟩
        have hlen : lr.length = n + 1 := by rw [hmx]; simp [hn]
        obtain ⟨g, cap, rfl, hg1, hg2, hg3, hg4⟩ : ∃ g cap, u5 = .slice (some ⟨g, 0, none⟩) (n + 1) cap ∧ B ≤ g ∧ g < wr.heap.size ∧ n + 1 ≤ cap ∧ cap ≤ 9223372036854775807 := by
          rcases hOr.shape with ⟨-, e⟩ | ⟨g, cap, e1, e2, e3, e4, e5⟩
          · rw [e] at hlen; simp at hlen
          · rw [hlen] at e1 e4; exact ⟨g, cap, e1, e2, e3, e4, e5⟩
        have hO' : wr.ownsRow B 5 1 (.slice (some ⟨g, 0, none⟩) (n + 1) cap) (n + 1) (bs m ++ [.int .u8 x]) := by
          have := hOr
          unfold Own8 at this
          rw [hlen, hmx, bs_app] at this
          exact this
        have hcx : wr.cell? ⟨g, n, none⟩ = some (.int .u8 x) := by
          rw [World.ownsRow.cellAt hO' n (by omega)]
          simp [bs, hn]
        have hxb := hbr x (by rw [hmx]; simp)
        have ht' : Hid (trim l0 = if x = 0 then trim m else m ++ [x]) := by
          have := ht.out
          rw [hmx, trim_snoc] at this
          exact this
        have hbm : Bytes m := fun y hy => hbr y (by rw [hmx]; simp [hy])
        have HM := hidden hmx
        have HN := hidden hn
        have HL2 := hidden hlen
        clear hmx hn hlen
        have hpos : (0 : Int) < (n : Int) + 1 := by omega
        have hn0 : (0 : Int) ≤ (n : Int) := by omega
        have hnb : (n : Int) ≤ 900001 := by have := HL2.out; omega
        by_cases hx : x = 0
        · have hxx : (x == 0) = true := by simp [hx]
          have HX := hidden hx
          clear hx
          go_wp2_with fail
          go_roundg n
          case measure => have := HL2.out; omega
          case rel =>
            have hOp : Own8 wr B (.slice (some ⟨g, 0, none⟩) n cap) m := by
              have := own_pop hO'
              unfold Own8
              rw [HN.out]
              exact this
            exact ⟨m, HN.out, hOp, hbm, by have := HN.out; have := HL2.out; omega, gr, by show _ = _; rw [ht'.out, if_pos HX.out]⟩
        · have hxx : (x == 0) = false := by simp [hx]
          go_wp2_with fail
          go_ret2
          rw [E1.out, E2.out, HL.out, ht'.out, if_neg hx, ← HM.out]
          exact BytesErr.of_own hOr gr

theorem rFinish_any (lo wd : Int) (v : Value) (l : List Int) (hb : Bytes l) (hl0 : 0 ≤ lo) (hl1 : lo ≤ 4294967295) (hw1 : wd ≤ 4294967295) (w : World) (h : Rd8 w v l) :
    Calls Try.prog 20 #[.agg #[.int .u32 lo, .int .u32 wd, v]] w fun x w' => BytesErr w (finB lo wd l) (finE lo wd l) x w' := by
  by_cases hc : chk wd l.length = 0
  · exact rFinish_ok lo wd v l hb hl0 hl1 hw1 w h hc
  · exact rFinish_bad lo wd v l w h hc
end Go.Proofs.Ytnodnfmgklkjeaa
