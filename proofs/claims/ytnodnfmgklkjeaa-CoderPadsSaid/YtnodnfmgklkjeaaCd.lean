/- The encoder's end. -/
import Derived.Test.YtnodnfmgklkjeaaCc
import Derived.Deep.QuietTactic
import Derived.BigQuiet
import Derived.Deep.CutBlock
namespace Go.Proofs.Ytnodnfmgklkjeaa
open Go.RowKit
set_option linter.unusedVariables false
attribute [local go_sem ↓] Go.wp_at_zero Go.wp_at_succ

/-- Zeros at the end go. -/
def trim (l : List Int) : List Int := (l.reverse.dropWhile (fun x => decide (x = 0))).reverse
theorem trim_nil : trim [] = [] := rfl
theorem trim_snoc (l : List Int) (x : Int) : trim (l ++ [x]) = if x = 0 then trim l else l ++ [x] := by
  unfold trim
  simp only [List.reverse_append, List.reverse_cons, List.reverse_nil, List.nil_append, List.cons_append, List.dropWhile_cons, decide_eq_true_eq]
  split <;> simp
def finL (lo wd : Int) (l : List Int) : List Int := if lo = 0 then l else if 4294967296 < lo + wd then carryL l else l ++ [(lo + 16777215) / 16777216]

set_option maxHeartbeats 1000000 in
theorem finish_any (p B : Nat) (wd lo : Int) (v : Value) (l : List Int) (hb : Bytes l) (hpg : v.ownBlock ≠ some p) (hl : l.length ≤ 900000) (h0 : 16777216 ≤ wd) (h1 : wd ≤ 4294967295) (hl0 : 0 ≤ lo) (hl1 : lo ≤ 4294967295)
    (w : World) (hBw : B ≤ w.heap.size) (hB : Blk w p 77 [.int .u32 wd, .int .u64 lo, v]) (hO : Own8 w B v l) :
    Calls Try.prog 40 #[.pointer (some ⟨p, 0, none⟩)] w fun e w' =>
      ∃ v', e = .returned v' ∧ Own8 w' B v' (trim (finL lo wd l)) ∧ Chg (p :: v.ownBlock.toList) w w' := by
  have hc0 := hB.cell 0 _ rfl
  have hc1 := hB.cell 1 _ rfl
  have hc2 := hB.cell 2 _ rfl
  have hf2 := hB.frozen 2
  have hw0 : IntKind.u64.wrap wd = wd := IntWalk.u64_in _ (by omega)
  have hw1 : IntKind.u64.wrap (lo + wd) = lo + wd := IntWalk.u64_in _ (by omega)
  have e1 : lo = 0 → finL lo wd l = l := fun h => if_pos h
  have e2 : lo ≠ 0 → 4294967296 < lo + wd → finL lo wd l = carryL l := fun h h' => by unfold finL; rw [if_neg h, if_pos h']
  have e3 : lo ≠ 0 → ¬ 4294967296 < lo + wd → finL lo wd l = l ++ [(lo + 16777215) / 16777216] := fun h h' => by unfold finL; rw [if_neg h, if_neg h']
  have E1 := hidden e1
  have E2 := hidden e2
  have E3 := hidden e3
  clear e1 e2 e3
  go_enter Try.func40, Try.ntmps40
  go_upto_block 0 with fail
  go_cut [] (fun wx => ∃ v', Blk wx p 77 [.int .u32 wd, .int .u64 lo, v'] ∧ Own8 wx B v' (finL lo wd l) ∧ v'.ownBlock ≠ some p ∧ (v'.ownBlock = v.ownBlock ∨ ∃ x, v'.ownBlock = some x ∧ w.heap.size ≤ x) ∧ Chg (p :: v.ownBlock.toList) w wx)
  case first =>
    by_cases hz : lo = 0
    · have hzz : (lo == 0) = true := by simp [hz]
      have HZ := hidden hz
      clear hz
      go_wp2_with fail
      go_meet
      exact ⟨v, hB, by rw [E1.out HZ.out]; exact hO, hpg, Or.inl rfl, Chg.refl _ _⟩
    · have hzz : (lo == 0) = false := by simp [hz]
      by_cases hg : 4294967296 < lo + wd
      · go_wp2_with fail
        go_quiet (fail)
        go_wp2_with fail
        refine (carry_any p B _ _ v l hb hpg (by omega) _ (hB.drewN _) (own_ext hO ((Ext.refl w).drewN _))).mono ?_
        rintro e w2 ⟨rfl, hB2, hO2, hC2⟩
        go_wp2_with fail
        go_meet
        exact ⟨v, hB2, by rw [E2.out hz hg]; exact hO2, hpg, Or.inl rfl, ((Chg.refl _ w).drewN _).trans hC2 (fun x hx => Or.inl (List.mem_cons_of_mem _ hx))⟩
      · go_wp2_with fail
        go_quiet (fail)
        go_wp2_with fail
        have hB2 := hB.drewN nq
        have hO2 : Own8 (w.drewN nq) B v l := own_ext hO ((Ext.refl w).drewN _)
        have hC2 : Chg (p :: v.ownBlock.toList) w (w.drewN nq) := (Chg.refl _ w).drewN _
        have s2 : w.heap.size = (w.drewN nq).heap.size := rfl
        generalize w.drewN nq = w2 at hB2 hO2 hC2 s2 ⊢
        have hpl := hB2.lt
        have c1 := hB2.cell 1 _ rfl
        have c2 := hB2.cell 2 _ rfl
        have f2 := hB2.frozen 2
        have hy1 : IntKind.u64.wrap (lo + 16777216) = lo + 16777216 := IntWalk.u64_in _ (by omega)
        have hy2 : IntKind.u64.wrap (lo + 16777216 - 1) = lo + 16777215 := by rw [IntWalk.u64_in _ (by omega)]; omega
        have hy3 : IntKind.u8.wrap ((lo + 16777215) / 16777216) = (lo + 16777215) / 16777216 := IntWalk.u8_in _ (by omega)
        obtain ⟨i0, hi, hz0, hz1, hz2⟩ := info_parts u8info
        go_region_law (first | (refine step_append_lies _ (by rfl) _ _ _ (by rfl) B 5 i0 (.int .u8 0) 1 1 Try.underlying23 hi hz0 hz1 hz2 rfl (by decide) v l.length (bs l) (by rfl) ((World.ownsRow.alloc hO2 _).drew) ⟨w2.heap.size, 0, none⟩ 1 1 [.int .u8 ((lo + 16777215) / 16777216)] (by rfl) (by rfl) (World.news_of_block (cs := #[.int .u8 ((lo + 16777215) / 16777216)]) (t := 5) (fr := (0, 0)) (heap_alloc_new w2 _)) (by simp [Value.oneCell']) (by omega) (by unfold maxLen; omega) (by omega) (by simp; omega) (w2.heap.size + 1) (by simp) ?_; intro gg cap w1 hown1 hgrow hat hlt; have q1 := ((hB2.alloc (.cells #[.int .u8 ((lo + 16777215) / 16777216)] 5)).drew).grown hgrow hpg; have q2 := q1.cell 2 _ rfl; have q3 := q1.frozen 2))
        all_goals
          go_wp2_with fail
          go_meet
          have hgp : gg ≠ p := by
            rcases hat with h | h
            · rw [h] at hpg; exact fun e => hpg (by rw [e])
            · omega
          refine ⟨.slice (some ⟨gg, 0, none⟩) (l.length + 1) cap, q1.set 2 _, ?_, by simpa [Value.ownBlock] using hgp, ?_, ?_⟩
          · rw [E3.out hz (by omega)]
            have h5 := ownsRow_setCell_other (a := ⟨p, 2, none⟩) hown1 (by simpa [Value.ownBlock] using hgp) (.slice (some ⟨gg, 0, none⟩) (l.length + 1) cap)
            unfold Own8
            rw [bs_app, List.length_append]
            exact h5
          · rcases hat with h | h
            · exact Or.inl h.symm
            · exact Or.inr ⟨gg, rfl, by omega⟩
          · exact ((((hC2.alloc _).drew).grown hgrow (fun k hk => Or.inl (by rw [hk]; simp)))).setCell (Or.inl (by simp)) _
  case rest =>
    obtain ⟨v1, hB1, hO1, hp1, hv1, hC1⟩ := hcut
    have hbf : Bytes (finL lo wd l) := by
      unfold finL
      split
      · exact hb
      · split
        · exact carryL_bytes hb
        · exact hb.snoc (by omega) (by omega)
    have hlf : (finL lo wd l).length ≤ l.length + 1 := by
      unfold finL
      split
      · omega
      · split
        · rw [carryL_len]; omega
        · simp
    obtain ⟨l0, hl0e⟩ : ∃ l0, finL lo wd l = l0 := ⟨_, rfl⟩
    rw [hl0e] at hO1 hbf hlf
    have HL := hidden hl0e
    clear hl0e
    go_wp2_with fail
    go_loopg [] l0.length (fun k wr => ∃ v' lr, lr.length = k ∧ Blk wr p 77 [.int .u32 wd, .int .u64 lo, v'] ∧ Own8 wr B v' lr ∧ Bytes lr ∧ lr.length ≤ 900001 ∧ v'.ownBlock = v1.ownBlock ∧ Chg (p :: v.ownBlock.toList) w wr ∧ Hid (trim l0 = trim lr))
    case atStart => exact ⟨v1, l0, rfl, hB1, hO1, hbf, by omega, rfl, hC1, rfl⟩
    case round =>
      obtain ⟨v', lr, rfl, hBr, hOr, hbr, hlr, hvr, hCr, ht⟩ := hrel
      have f2 := hBr.frozen 2
      rcases list_snoc lr with hnil | ⟨m, x, hmx⟩
      · subst hnil
        obtain ⟨a, cap, rfl, -, -, -⟩ := Rd.shape hOr.rd
        have hO0 : wr.ownsRow B 5 1 (.slice a 0 cap) 0 [] := hOr
        have r2 := hBr.cell 2 _ rfl
        go_wp2_with fail
        go_quiet (fail)
        go_wp2_with fail
        go_ret
        exact ⟨.slice a 0 cap, rfl, by rw [HL.out, ht.out, trim_nil]; exact own_ext hO0 ((Ext.refl wr).drewN _), hCr.drewN _⟩
      · obtain ⟨n, hn⟩ : ∃ n, m.length = n := ⟨_, rfl⟩
        have hlen : lr.length = n + 1 := by rw [hmx]; simp [hn]
        obtain ⟨g, cap, rfl, hg1, hg2, hg3, hg4⟩ : ∃ g cap, v' = .slice (some ⟨g, 0, none⟩) (n + 1) cap ∧ B ≤ g ∧ g < wr.heap.size ∧ n + 1 ≤ cap ∧ cap ≤ 9223372036854775807 := by
          rcases hOr.shape with ⟨-, e⟩ | ⟨g, cap, e1, e2, e3, e4, e5⟩
          · rw [e] at hlen; simp at hlen
          · rw [hlen] at e1 e4; exact ⟨g, cap, e1, e2, e3, e4, e5⟩
        have hO' : wr.ownsRow B 5 1 (.slice (some ⟨g, 0, none⟩) (n + 1) cap) (n + 1) (bs m ++ [.int .u8 x]) := by
          have := hOr
          unfold Own8 at this
          rw [hlen, hmx, bs_app] at this
          exact this
        have hcx : wr.cell? ⟨g, n, none⟩ = some (.int .u8 x) := by
          rw [World.ownsRow.cellAt hO' n (by omega)]
          simp [bs, hn]
        have hxb := hbr x (by rw [hmx]; simp)
        have ht' : Hid (trim l0 = if x = 0 then trim m else m ++ [x]) := by
          have := ht.out
          rw [hmx, trim_snoc] at this
          exact this
        have hbm : Bytes m := fun y hy => hbr y (by rw [hmx]; simp [hy])
        have r2 := hBr.cell 2 _ rfl
        have HM := hidden hmx
        have HV : Hid ((Value.slice (some ⟨g, 0, none⟩) n cap).ownBlock = v1.ownBlock) := hvr
        have HP : Hid ((Value.slice (some ⟨g, 0, none⟩) n cap).ownBlock ≠ some p) := by
          have := HV.out
          show _ ≠ _
          rw [this]
          exact hp1
        have HN := hidden hn
        have HL2 := hidden hlen
        clear hmx hn hlen
        have hpos : (0 : Int) < (n : Int) + 1 := by omega
        have hidx : (n : Int) < (n : Int) + 1 := by omega
        have hn0 : (0 : Int) ≤ (n : Int) := by omega
        have hnb : (n : Int) ≤ 900001 := by have := HL2.out; omega
        have hwn : IntKind.i64.wrap (n : Int) = (n : Int) := IntWalk.i64_in _ (by omega)
        have hwn2 : IntKind.i64.wrap ((n : Int) + 1 - 1) = (n : Int) := by rw [IntWalk.i64_in _ (by omega)]; omega
        by_cases hx : x = 0
        · have hxx : (x == 0) = true := by simp [hx]
          have HX := hidden hx
          clear hx
          go_wp2_with fail
          go_quiet (fail)
          go_wp2_with fail
          go_region
          go_wp2_with fail
          go_roundg n
          case measure => have := HL2.out; omega
          case rel =>
            have hOp : Own8 (wr.drewN nq) B (.slice (some ⟨g, 0, none⟩) n cap) m := by
              have := own_pop (own_ext hO' ((Ext.refl wr).drewN nq))
              unfold Own8
              rw [HN.out]
              exact this
            have hgp : g ≠ p := by
              have := HP.out
              intro e
              rw [e] at this
              exact this rfl
            refine ⟨.slice (some ⟨g, 0, none⟩) n cap, m, HN.out, ((hBr.drewN nq).set 2 _).drew, own_ext (ownsRow_setCell_other (a := ⟨p, 2, none⟩) hOp (by simpa [Value.ownBlock] using hgp) _) ((Ext.refl _).drew), hbm, by have := HN.out; have := HL2.out; omega, HV.out, ((hCr.drewN nq).setCell (Or.inl (by simp)) _).drew, by show _ = _; rw [ht'.out, if_pos HX.out]⟩
        · have hxx : (x == 0) = false := by simp [hx]
          go_wp2_with fail
          go_quiet (fail)
          go_wp2_with fail
          go_ret
          refine ⟨.slice (some ⟨g, 0, none⟩) (n + 1) cap, rfl, ?_, hCr.drewN _⟩
          rw [HL.out, ht'.out, if_neg hx, ← HM.out]
          have := own_ext hO' ((Ext.refl wr).drewN nq)
          unfold Own8
          rw [HL2.out, HM.out, bs_app]
          exact this

end Go.Proofs.Ytnodnfmgklkjeaa
