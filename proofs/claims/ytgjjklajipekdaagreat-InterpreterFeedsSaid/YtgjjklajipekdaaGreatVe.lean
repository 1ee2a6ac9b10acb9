
import Derived.Test.YtgjjklajipekdaaGreatVg
import Derived.Deep.LoopGhost
import Derived.Deep.Cut
import Derived.Deep.AppendLies
import Derived.Deep.CutRange
import Derived.Deep.CutBlock
import Derived.RegionTactic
namespace Go.Proofs.YtgjjklajipekdaaGreat
set_option maxHeartbeats 16000000
set_option maxRecDepth 100000
open Go.RowKit
set_option linter.unusedVariables false
set_option linter.unusedSimpArgs false
attribute [local go_sem ↓] Go.wp_at_zero Go.wp_at_succ
theorem T.last_app (l : T) (op f t : Int) (b o : T) : (l.app (.cons op f t b o .nil)).lastOp = some op := by
  induction l with
  | nil => rfl
  | cons _ _ _ _ _ r _ _ ih => cases r with
    | nil => rfl
    | cons => simpa [app, lastOp] using ih
def T.lastT : T → Int
  | nil => 0
  | cons _ _ t _ _ r => match r with
    | nil => t
    | cons .. => lastT r
theorem T.lastT_app (l : T) (op f t : Int) (b o : T) : (l.app (.cons op f t b o .nil)).lastT = t := by
  induction l with
  | nil => rfl
  | cons _ _ _ _ _ r _ _ ih => cases r with
    | nil => rfl
    | cons => simpa [app, lastT] using ih
theorem blk_form (C : List (Int × Int)) (g : Nat → Nat → Bool → T → List Int → List Int → PRes) (i d : Nat) (L : Bool) (P LV : List Int) (r : T × Nat × List Int × List Int) (h : blkF C g i d L P LV = .ok r) : ∃ t b o, r.1 = .cons (opAtFl C i) i t b o .nil := by
  have fin : ∀ last k b oth P lv, finF C (opAtFl C i) i last k b oth P lv LV = .ok r → ∃ t b o, r.1 = .cons (opAtFl C i) i t b o .nil := by
    intro last k b oth P lv h
    unfold finF at h
    split at h
    · cases h; exact ⟨_, _, _, rfl⟩
    · cases h
  unfold blkF at h
  split at h
  · cases h
  split at h
  · cases h
  split at h
  · split at h
    · cases h
    · exact fin _ _ _ _ _ _ h
  · exact fin _ _ _ _ _ _ h
theorem intinfo : (Tryz.prog.info? 3).map (fun i => (i.zero, i.size, i.bytes)) = some (some (.int .i64 0), 1, 8) := by kernel_rfl
theorem blkinfo : (Tryz.prog.info? 178).map (fun i => (i.zero, i.size, i.bytes)) = some (some (.agg #[.int .i64 0, .int .i64 0, .int .i64 0, .slice none 0 0, .slice none 0 0]), 5, 72) := by kernel_rfl
theorem blk_ge (C : List (Int × Int)) (f i d : Nat) (L : Bool) (P LV : List Int) (r : T × Nat × List Int × List Int) (hi : i < C.length) (h : blkF C (lstF C f) i d L P LV = .ok r) : i + 1 ≤ r.2.1 ∧ r.2.1 ≤ C.length ∧ (LV.length ≤ i → r.2.2.2.length ≤ r.2.1) := by
  have fin : ∀ last k b oth P l, i + 1 ≤ k → (LV.length ≤ i → opAtFl C i ≠ 29 → l.length ≤ k) → finF C (opAtFl C i) i last k b oth P l LV = .ok r → i + 1 ≤ r.2.1 ∧ r.2.1 ≤ C.length ∧ (LV.length ≤ i → r.2.2.2.length ≤ r.2.1) := by
    intro last k b oth P l hk hl h
    unfold finF at h
    split at h
    next hc =>
      simp only [Except.ok.injEq] at h
      subst h
      refine ⟨by simp only; omega, hc.1, fun h => ?_⟩
      simp only
      split
      · omega
      next h29 => have := hl h h29; omega
    · cases h
  unfold blkF at h
  split at h
  · cases h
  split at h
  · cases h
  next body j1 P1 lv1 h1 =>
  have a1 := lst_ge C f _ _ _ _ _ _ _ (by omega) h1
  simp only at a1
  split at h
  next hc =>
    split at h
    · cases h
    next oth k P2 lv2 h2 =>
    have a2 := lst_ge C f _ _ _ _ _ _ _ (by omega) h2
    simp only at a2
    exact fin _ _ _ _ _ _ (by omega) (fun h h29 => a2.2.2 (by have := a1.2.2 (by rw [if_neg h29]; omega); omega)) h
  · exact fin _ _ _ _ _ _ (by omega) (fun h h29 => a1.2.2 (by rw [if_neg h29]; omega)) h
theorem LS.done {w wr : World} {B br : Nat} {vc : Value} {C : List (Int × Int)} {vp : Value} {q q' : LQ} {v : Value} {m : Nat} {out : T} {cs : List Value} {i : Nat} {P : List Int} (h : LS w wr B br vc C vp q q' v m out cs i P) : LstPost w B br vc C vp q (.ok (out, i, P, lqL q')) (.returned v) wr :=
  ⟨v, cs, q', rfl, by rw [h.len]; exact h.own, h.off, h.fr, h.st, rfl, h.to, h.chg⟩
theorem T.split_last (l : T) (k : Nat) (h : l.len = k + 1) : ∃ (l0 : T) (op f t : Int) (b o : T), l = l0.app (.cons op f t b o .nil) ∧ l0.len = k := by
  induction l generalizing k with
  | nil => simp [len] at h
  | cons op f t b o r _ _ ih =>
    cases r with
    | nil => exact ⟨.nil, op, f, t, b, o, rfl, by simp [len] at h ⊢; omega⟩
    | cons =>
      obtain ⟨k', rfl⟩ : ∃ k', k = k' + 1 := ⟨k - 1, by simp [len] at h; omega⟩
      obtain ⟨l0, op', f', t', b', o', e, hl⟩ := ih k' (by simp [len] at h ⊢; omega)
      exact ⟨.cons op f t b o l0, op', f', t', b', o', by rw [app, ← e], by simp [len, hl]⟩
theorem LS.lastCell {w wr : World} {B br : Nat} {vc : Value} {C : List (Int × Int)} {vp : Value} {q q' : LQ} {g c m : Nat} {l0 b o : T} {op f t : Int} {cs : List Value} {i : Nat} {P : List Int}
    (h : LS w wr B br vc C vp q q' (.slice (some ⟨g, 0, none⟩) m c) m (l0.app (.cons op f t b o .nil)) cs i P) : wr.cell? ⟨g, l0.len * 5, none⟩ = some (.int .i64 op) := by
  obtain ⟨c1, c2, rfl, h1, h2⟩ := h.fr.split
  have hc1 := h1.length
  obtain ⟨vb, vo, cr, rfl, k1, k2, k3⟩ := h2
  exact own_cell h.own _ _ (by rw [← hc1]; simp)
theorem LS.some {w wr : World} {B br : Nat} {vc : Value} {C : List (Int × Int)} {vp : Value} {q q' : LQ} {ad : Option Addr} {c m : Nat} {out : T} {cs : List Value} {i : Nat} {P : List Int}
    (h : LS w wr B br vc C vp q q' (.slice ad m c) m out cs i P) (hm : 0 < m) : ∃ g, ad = Option.some ⟨g, 0, none⟩ := by
  rcases h.own.2 with ⟨h1, h2⟩ | ⟨g, cap, cur, hv, -⟩
  · simp at h1; omega
  · simp only [Value.slice.injEq] at hv; exact ⟨g, hv.1⟩
theorem Fr.ones {w : World} {Q : Nat → Prop} {t : T} {cs : List Value} (h : Fr w Q t cs) : ∀ u ∈ cs, u.oneCell' = true := by
  induction t generalizing cs with
  | nil => cases h; simp
  | cons op f t b o r ihb iho ihr =>
    obtain ⟨vb, vo, cr, rfl, ⟨cb, h1, -⟩, ⟨co, h2, -⟩, h7⟩ := h
    obtain ⟨a, c, rfl, -⟩ := h1.shape
    obtain ⟨a', c', rfl, -⟩ := h2.shape
    intro u hu
    simp only [List.mem_cons] at hu
    rcases hu with rfl | rfl | rfl | rfl | rfl | hu
    all_goals first | rfl | exact ihr h7 u hu
theorem wpList_appendB {ops : Array Oper} {rest : List Oper} {o : Oper} {a : Act} {Q : Exit → Act → World → Prop} {w : World} (hgd : o.guard = none) (s x : Operand)
    (ho : o.op = .call { callee := .builtin .append, args := #[s, x], argTypes := #[128, 128] })
    (B : Nat) (v : Value) (m : Nat) (cs : List Value) (a1 a2 a3 a4 a5 : Value) (q : Nat) (hO : w.ownsRow B 178 5 v m cs) (hs : a.eval s = v) (hx : a.eval x = .slice (some ⟨q, 0, none⟩) 1 1)
    (hq : Blk w q 178 [a1, a2, a3, a4, a5]) (h1 : ∀ u ∈ [a1, a2, a3, a4, a5], u.oneCell' = true) (hl : m ≤ 900000) (hB : B ≤ w.heap.size)
    (h : ∀ g cap w', w'.ownsRow B 178 5 (.slice (some ⟨g, 0, none⟩) (m + 1) cap) (m + 1) (cs ++ [a1, a2, a3, a4, a5]) → w.grownBy w' v.ownBlock → (v.ownBlock = some g ∨ g = w.heap.size) → g < w'.heap.size →
      wpList Tryz.prog ops Q rest (a.put o.dst (.slice (some ⟨g, 0, none⟩) (m + 1) cap)) w') : wpList Tryz.prog ops Q (o :: rest) a w := by
  obtain ⟨i0, hi, hz0, hz1, hz2⟩ := info_parts blkinfo
  refine wpList_append_lies w hgd s x 128 ho B 178 i0 (.agg #[.int .i64 0, .int .i64 0, .int .i64 0, .slice none 0 0, .slice none 0 0]) 5 72 Tryz.underlying128 hi hz0 hz1 hz2 rfl (by decide) v m cs hs hO ⟨q, 0, none⟩ 1 1 [a1, a2, a3, a4, a5] hx rfl ?_ h1 (by omega) (by unfold maxLen; omega) (by omega) hB w.heap.size rfl h
  intro j u hu
  match j, hu with
  | 0, hu => exact hq.cell 0 u hu
  | 1, hu => exact hq.cell 1 u hu
  | 2, hu => exact hq.cell 2 u hu
  | 3, hu => exact hq.cell 3 u hu
  | 4, hu => exact hq.cell 4 u hu
  | j + 5, hu => simp at hu
theorem list_any (C : List (Int × Int)) (f : Nat) (ih : ∀ f' < f, BlkOK C f') : ListOK C f := by
  intro w B br vc vp i d q P hSt hBw hC hi hf hd hfw
  obtain ⟨R, hR⟩ := ex (lstF C f i d q.isSome .nil P (lqL q))
  rw [hR]
  replace hR := hidden hR
  replace ih := hidden ih
  replace hSt := hidden hSt
  obtain ⟨n, hn⟩ := ex C.length
  rw [hn] at hi hf hC
  replace hn := hidden hn
  have hop := hidden opens_any
  have hd0 := hidden demand_false
  have hd1 := hidden demand_true
  obtain ⟨qv, hqv⟩ := ex (lqV q)
  rw [hqv]
  replace hqv := hidden hqv
  obtain ⟨ac, cc, hvc, hcc, -⟩ := hSt.out.code.shape
  rw [hn.out] at hvc hcc
  subst hvc
  obtain ⟨i0, hi0, hz0, hz1, hz2⟩ := info_parts blkinfo
  go_enter Tryz.func91, Tryz.ntmps91
  go_wp2_with fail
  go_loopg [7] f (fun k o wr => ∃ (i' m : Nat) (ad : Option Addr) (cp : Nat) (out : T) (P' : List Int) (q' : LQ) (cs : List Value), o = .slice ad m cp ∧ i' ≤ n ∧ m ≤ i' ∧ n - i' < k ∧ k ≤ f ∧ Hid ((lqL q').length ≤ i') ∧ Hid (out.lastOp = some (-1) → out.lastT = i') ∧
    Hid (lstF C k i' d q.isSome out P' (lqL q') = R) ∧ Hid (LS w wr B br (.slice ac n cc) C vp q q' (.slice ad m cp) m out cs i' P'))
  case atStart => exact ⟨i, 0, none, 0, .nil, P, q, [], rfl, hi, by omega, by omega, by omega, hidden hfw, hidden (fun h => by cases h), hR, hidden (LS.start hSt.out)⟩
  case round =>
    obtain ⟨i', m, ad, cp, out, P', q', cs, rfl, hi', hmi, hk, hkf, hfl, hlast, hR', hL⟩ := hrel
    have hB := hL.out.st.rd
    obtain ⟨c0, c1⟩ := hB.c2
    have f1 := hB.frozen 1
    obtain ⟨k', rfl⟩ : ∃ k', gk = k' + 1 := ⟨gk - 1, by omega⟩
    clear hB
    by_cases hlt : i' < n
    · have hltD : decide ((i' : Int) < (n : Int)) = true := by simp; omega
      obtain ⟨pb, po, rfl, -, -⟩ := Rd.cells (cs := C.flatMap icell) (w := wr) (sz := 2) (by have := hL.out.st.code; unfold Code18 at this; rw [hn.out] at this; exact this) (show 0 < n by omega)
      obtain ⟨hx0, -⟩ := code_at hL.out.st.code i' (by rw [hn.out]; exact hlt)
      obtain ⟨x, hx⟩ := ex (opAtFl C i')
      rw [hx] at hx0
      have hRx : Hid ((if x = 28 ∨ x = 31 then .ok (out, i', P', lqL q') else if x = 27 ∨ x = 29 then
          match blkF C (lstF C k') i' (d + 1) q.isSome P' (lqL q') with
          | .error e => .error e
          | .ok (b, j, P2, lv2) => lstF C k' j d q.isSome (out.app b) P2 lv2
        else if x = 30 ∧ q.isSome = false then .error i'
        else lstF C k' (i' + 1) d q.isSome (out.addP i') P' (if x = 30 then lqL q' ++ [(i' : Int)] else lqL q') : PRes) = R) := by
        have := hR'.out
        unfold lstF at this
        rw [if_neg (by rw [hn.out]; omega), hx] at this
        exact this
      replace hx := hidden hx
      clear hR'
      go_wp2_with fail
      go_region
      go_wp2_with fail
      go_region
      replace hL := hidden hL.out.drew.drew
      obtain ⟨wt, hwt⟩ := ex wr.drew.drew
      rw [hwt] at hL ⊢
      clear hwt c0 c1 f1 hx0
      go_upto_block 2 with fail
      go_cut [7] from 10 to 112 (fun s wx => ∃ q2, s = .slice ad m cp ∧ Hid (lstF C k' (i' + 1) d q.isSome (out.addP i') P' (lqL q2) = R) ∧ Hid ((lqL q2).length ≤ i' + 1) ∧ Hid (LS w wx B br (.slice (some ⟨pb, po, none⟩) n cc) C vp q q2 (.slice ad m cp) m out cs i' P'))
      case first =>
       by_cases hA : x = 28 ∨ x = 31
       · have hRe : R = .ok (out, i', P', lqL q') := by rw [← hRx.out, if_pos hA]
         have hA' : (x == 28 || x == 31) = true := by simp; exact hA
         have hA1 : (x == 28) = true ∨ (x == 28) = false ∧ (x == 31) = true := by simp; omega
         rcases hA1 with hA1 | ⟨hA1, hA2⟩
         · go_wp2_with fail
           go_ret
           show LstPost _ _ _ _ _ _ _ R _ _
           rw [hRe]
           exact hL.out.done
         · go_wp2_with fail
           go_ret
           show LstPost _ _ _ _ _ _ _ R _ _
           rw [hRe]
           exact hL.out.done
       · have hA1 : (x == 28) = false := by simp; omega
         have hA2 : (x == 31) = false := by simp; omega
         go_wp2_with fail
         refine (hop.out _ _).mono ?_
         rintro e w1 ⟨rfl, hw1⟩
         rw [hw1]
         clear hw1
         by_cases hB : x = 27 ∨ x = 29
         · have hBt : (decide (x = 27) || decide (x = 29)) = true := by simp; exact hB
           obtain ⟨hqs, hqi⟩ := hL.out.to.same
           go_wp2_with fail
           have hcall := ih.out k' (by omega) _ B br _ vp i' (d + 1) q' P' hL.out.st (Nat.le_trans hBw hL.out.chg.size) (by rw [hn.out]; exact hC) (by rw [hn.out]; exact hlt) (by rw [hn.out]; omega) (by omega) hfl.out
           rw [hqs, hqi, hqv.out, show ((d + 1 : Nat) : Int) = (d : Int) + 1 by omega] at hcall
           refine hcall.mono ?_
           rintro e w1 hP
           have hRb : Hid ((match blkF C (lstF C k') i' (d + 1) q.isSome P' (lqL q') with
             | .error e => .error e
             | .ok (b, j, P2, lv2) => lstF C k' j d q.isSome (out.app b) P2 lv2 : PRes) = R) := by
             have := hRx.out
             rw [if_neg hA, if_pos hB] at this
             exact this
           clear hRx hcall
           cases hbk : blkF C (lstF C k') i' (d + 1) q.isSome P' (lqL q') with
           | error er =>
             rw [hbk] at hP hRb
             have hRe := hRb.out
             simp only at hRe
             replace hRe := hidden hRe
             replace hbk := hidden hbk
             obtain ⟨rfl, hX1⟩ := hP
             clear hRb
             have hXX := hidden (hL.out.chg.trans hX1 (fun x hx => mem_ss hL.out.to hx))
             unfold fail
             go_wp2_with fail
             refine ⟨rfl, ?_⟩
             show LstPost _ _ _ _ _ _ _ R _ _
             rw [← hRe.out]
             exact ⟨rfl, hXX.out⟩
           | ok r =>
             rw [hbk] at hP hRb
             have hge := blk_ge C k' _ _ _ _ _ _ (by rw [hn.out]; exact hlt) hbk
             obtain ⟨tb, ob, bb, hform⟩ := blk_form _ _ _ _ _ _ _ _ hbk
             obtain ⟨b, j, P2, lv2⟩ := r
             simp only at hRb hge hform
             have hge2 : j ≤ n := by rw [← hn.out]; exact hge.2.1
             obtain ⟨op, fr, u, vb, vo, q2, rfl, htl, hFb, hS1, hlv, hto, hX1⟩ := hP
             have hge3 : (lqL q2).length ≤ j := by rw [hlv]; exact hge.2.2 hfl.out
             replace hge3 := hidden hge3
             replace hge := hge.1
             have hL1 := hL.out.step hX1 (fun x hx => Or.inl hx) hS1 hto
             have hws := hL.out.chg.size
             have hFb1 : Fr w1 (fun k => w.heap.size ≤ k ∧ k ∉ SS br vp q2 ∧ (Value.slice ad m cp).ownBlock ≠ some k) b [.int .i64 op, .int .i64 fr, .int .i64 u, vb, vo] := hFb.ext (Ext.refl w1) (fun k hk hQ => ⟨Nat.le_trans hws hQ.1, hQ.2, fun e => by have := (own_lt hL.out.own e).2; omega⟩)
             have hones := hFb.ones
             have hsz1 : w.heap.size ≤ w1.heap.size := Nat.le_trans hws hX1.size
             replace hlv := hidden hlv
             replace htl := hidden htl
             replace hform := hidden hform
             replace hL1 := hidden hL1
             replace hFb1 := hidden hFb1
             replace hones := hidden hones
             replace hbk := hidden hbk
             clear hFb hto hX1 hS1 hws
             go_wp2_with (at_builtin; refine wpList_appendB (by rfl) _ _ (by rfl) w.heap.size (.slice ad m cp) m cs (.int .i64 op) (.int .i64 fr) (.int .i64 u) vb vo w1.heap.size (World.ownsRow.alloc hL1.out.own _) (by rfl) (by rfl) (Blk.new w1 [.int .i64 op, .int .i64 fr, .int .i64 u, vb, vo] _) hones.out (by omega) (Nat.le_trans hsz1 (by simp)) ?_; intro g cap' w4 hO4 hg4 hat4 hlt4)
             have hL2 := hL1.out.push hBw ((Ext.refl w1).alloc _) hFb1.out htl.out hO4 hg4 (by rcases hat4 with h | h; exact Or.inl h; exact Or.inr (by simp at h; omega))
             replace hL2 := hidden hL2
             go_wp2_with fail
             go_roundg k'
             case measure => omega
             case rel =>
               refine ⟨j, m + 1, _, _, _, _, q2, _, rfl, by omega, by omega, by omega, by omega, hge3, hidden (fun h => ?_), hidden ?_, hL2⟩
               · have h1 := hform.out
                 rw [h1, T.last_app] at h
                 simp only [Option.some.injEq] at h
                 have h2 := hx.out
                 rw [h] at h2
                 omega
               · rw [← hRb.out, hlv.out]
         · have hx3 : (x == 27) = false := by simp; omega
           have hBf : (decide (x = 27) || decide (x = 29)) = false := by simp; omega
           by_cases h30 : x = 30
           · subst h30
             have hRc := hRx.out
             rw [if_neg hA, if_neg hB] at hRc
             cases q with
             | none =>
               have hRe : Hid (R = .error i') := by show _ = _; rw [← hRc, if_pos ⟨rfl, rfl⟩]
               obtain rfl : qv = .pointer none := by rw [← hqv.out]; rfl
               have hB := hL.out.st.rd
               have c1 := hB.cell 1 _ rfl
               clear hRx hRc
               go_wp2_with fail
               refine (hd0.out _ _ _).mono ?_
               rintro e w1 ⟨rfl, hw1⟩
               rw [hw1]
               clear hw1
               unfold fail
               go_wp2_with fail
               refine ⟨rfl, ?_⟩
               show LstPost _ _ _ _ _ _ _ R _ _
               rw [hRe.out]
               exact ⟨rfl, hL.out.chg⟩
             | some qq =>
               obtain ⟨bl, vs0, lv0⟩ := qq
               obtain ⟨vs, lv, rfl, -⟩ := hL.out.to
               have hRt : Hid (lstF C k' (i' + 1) d true (out.addP i') P' (lv ++ [(i' : Int)]) = R) := by
                 show _ = _
                 rw [← hRc, if_neg (by simp), if_pos rfl]
                 rfl
               obtain rfl : qv = .pointer (some ⟨bl, 0, none⟩) := by rw [← hqv.out]; rfl
               clear hRx hRc
               have hB := hL.out.st.rd
               have hLb := hL.out.st.leaves.1
               have hLo := hL.out.st.leaves.2
               have hlo0 := hLo.1
               have hnd := hL.out.st.nodup
               simp only [SS, lqS, List.nodup_cons, List.mem_append, List.mem_cons, not_or, Option.mem_toList, List.nodup_append] at hnd
               have hnbr : ¬ br = bl := hnd.1.2.1
               have hnbl : ¬ bl = br := fun e => hnd.1.2.1 e.symm
               have hpr : vs.ownBlock ≠ some br := hnd.1.2.2
               have hpl : vs.ownBlock ≠ some bl := hnd.2.2.1.1
               have hlvi : lv.length ≤ i' := hfl.out
               have hlvl : lv.length ≤ 900000 := by omega
               obtain ⟨c0, c1⟩ := hB.c2
               have f1 := hB.frozen 1
               have b0 := hLb.cell 0 _ rfl
               have g0 := hLb.frozen 0
               obtain ⟨j0, hj0, hy0, hy1, hy2⟩ := info_parts intinfo
               have hbrlt := hB.lt
               have hbllt := hLb.lt
               have hBwu : B ≤ wt.heap.size := Nat.le_trans hBw hL.out.chg.size
               replace hnd := hidden hnd
               replace hlo0 := hidden hlo0
               go_wp2_with fail
               refine (hd1.out _ _ _).mono ?_
               rintro e w1 ⟨rfl, hw1⟩
               rw [hw1]
               clear hw1
               go_wp2_with fail
               go_region_law (first | (refine step_append_lies _ (by rfl) _ _ _ (by rfl) B 3 j0 (.int .i64 0) 1 8 Tryz.underlying78 hj0 hy0 hy1 hy2 rfl (by decide) vs lv.length (lv.map (Value.int .i64)) (by rfl) ((World.ownsRow.alloc hLo _).drew) ⟨wt.heap.size, 0, none⟩ 1 1 [.int .i64 i'] (by rfl) (by rfl) (World.news_of_block (cs := #[.int .i64 i']) (t := 3) (fr := (0, 0)) (heap_alloc_new wt _)) (by simp [Value.oneCell']) (by omega) (by unfold maxLen; omega) (by omega) (by simp; omega) (wt.heap.size + 1) (by simp) ?_; intro gg cap w1 hown1 hgrow hat hlt1; have q1 := ((hB.alloc (.cells #[.int .i64 i'] 3)).drew).grown hgrow hpr; have q2 := ((hLb.alloc (.cells #[.int .i64 i'] 3)).drew).grown hgrow hpl; have q11 := q1.cell 1 _ rfl; have q13 := q1.frozen 1; have q20 := q2.cell 0 _ rfl; have q21 := q2.frozen 0))
               all_goals
                 have hown2 : OwnI w1 B (.slice (some ⟨gg, 0, none⟩) (lv.length + 1) cap) (lv ++ [(i' : Int)]) := by show World.ownsRow _ _ _ _ _ _ _; rw [List.length_append, List.map_append]; exact hown1
                 obtain ⟨hS2, hX2⟩ := St.leave hL.out.st hBwu (((Ext.refl wt).alloc (.cells #[.int .i64 i'] 3)).drew) hown2 hgrow (by rcases hat with h | h; exact Or.inl h; exact Or.inr (by omega))
                 have hL2 := hL.out.step hX2 (fun x hx => Or.inl (by simp only [SS, lqS, List.mem_cons, List.mem_append] at hx ⊢; exact Or.inr (Or.inr hx))) hS2 ⟨_, _, rfl, fun k hk => by simp only [Value.ownBlock, Option.some.injEq] at hk; subst hk; rcases hat with h | h; exact Or.inl h; exact Or.inr (by omega)⟩
                 replace hL2 := hidden hL2
                 clear hS2 hX2
                 go_wp2_with fail
                 go_meet
                 exact ⟨some (bl, .slice (some ⟨gg, 0, none⟩) (lv.length + 1) cap, lv ++ [(i' : Int)]), rfl, hRt, hidden (by show (lv ++ [(i' : Int)]).length ≤ _; simp; omega), hL2⟩
           · have h30' : (x == 30) = false := by simp; exact h30
             have hRt : Hid (lstF C k' (i' + 1) d q.isSome (out.addP i') P' (lqL q') = R) := by
               have := hRx.out
               rw [if_neg hA, if_neg hB, if_neg (fun h => h30 h.1), if_neg h30] at this
               exact this
             clear hRx
             go_wp2_with fail
             go_meet
             exact ⟨q', rfl, hRt, hidden (Nat.le_succ_of_le hfl.out), hL⟩
      case rest =>
          clear hL hRx
          obtain ⟨q2, rfl, hRt, hfl2, hL⟩ := hcut
          have hB := hL.out.st.rd
          obtain ⟨c0, c1⟩ := hB.c2
          have f1 := hB.frozen 1
          by_cases hlo : out.lastOp = some (-1)
          · obtain ⟨l0, fr, t, bb, ob, he, hadd⟩ := T.addP_old hlo i'
            have ht : t = i' := by have := hlast.out hlo; rw [he, T.lastT_app] at this; exact this
            subst ht
            have hm : m = l0.len + 1 := by have := hL.out.len; rw [he, T.len_app] at this; exact this.symm
            obtain ⟨kk, hkk⟩ := ex l0.len
            rw [hkk] at hm
            subst hm
            obtain ⟨g, rfl⟩ := hL.out.some (by omega)
            have hI : LS w wc B br (.slice (some ⟨pb, po, none⟩) n cc) C vp q q2 (.slice (some ⟨g, 0, none⟩) (kk + 1) cp) (kk + 1) (l0.app (.cons (-1) fr i' bb ob .nil)) cs i' P' := by rw [← he]; exact hL.out
            obtain ⟨d0, d1, d2, hgb, cs', hI2⟩ := hI.inc hBw
            rw [hkk] at d0 d1 d2 hI2
            have hI3 := hI2.bump (i' + 1)
            rw [show ((i' + 1 : Nat) : Int) = (i' : Int) + 1 by omega] at hI3
            have hbg : ¬ br = g := fun e => hgb e.symm
            have hRn : Hid (lstF C k' (i' + 1) d q.isSome (l0.app (.cons (-1) fr (i' + 1) bb ob .nil)) P' (lqL q2) = R) := by show _ = _; rw [← hadd]; exact hRt.out
            replace hI3 := hidden hI3
            replace hkk := hidden hkk
            replace he := hidden he
            replace hadd := hidden hadd
            clear hI hI2 hlo
            go_wp2_with fail
            go_roundg k'
            case measure => omega
            case rel =>
              refine ⟨i' + 1, kk + 1, _, _, _, P', q2, cs', rfl, by omega, by omega, by omega, by omega, hfl2, hidden (fun _ => by rw [T.lastT_app]; omega), hRn, hI3⟩
          · have hRn : Hid (lstF C k' (i' + 1) d q.isSome (out.app (.cons (-1) i' (i' + 1) .nil .nil .nil)) P' (lqL q2) = R) := by show _ = _; rw [← T.addP_new hlo]; exact hRt.out
            have hpb : br ∈ SS br vp q2 := by simp [SS]
            have hpr := hL.out.off br hpb
            have hbl := hL.out.st.rd
            have hsw := hL.out.chg.size
            have hwr : IntKind.i64.wrap ((i' : Int) + 1) = (i' : Int) + 1 := IntWalk.i64_in _ (by omega)
            rcases Nat.eq_zero_or_pos m with hm | hm
            · subst hm
              go_wp2_with fail
              go_region_law (first | (refine step_append_lies _ (by rfl) _ _ _ (by rfl) w.heap.size 178 i0 (.agg #[.int .i64 0, .int .i64 0, .int .i64 0, .slice none 0 0, .slice none 0 0]) 5 72 Tryz.underlying128 hi0 hz0 hz1 hz2 rfl (by decide) (.slice ad 0 cp) 0 cs (by rfl) ((World.ownsRow.alloc hL.out.own _).drew) ⟨wc.heap.size, 0, none⟩ 1 1 [.int .i64 (-1), .int .i64 i', .int .i64 ((i' : Int) + 1), .slice none 0 0, .slice none 0 0] (by rfl) (by rfl) (World.news_of_block (cs := #[.int .i64 (-1), .int .i64 i', .int .i64 ((i' : Int) + 1), .slice none 0 0, .slice none 0 0]) (t := 178) (fr := (0, 0)) (heap_alloc_new wc _)) (by simp [Value.oneCell']) (by omega) (by unfold maxLen; omega) (by omega) (by simp; omega) (wc.heap.size + 1) (by simp) ?_; intro gg cap w1 hown1 hgrow hat hlt1; have q1 := ((hbl.alloc (.cells #[.int .i64 (-1), .int .i64 i', .int .i64 ((i' : Int) + 1), .slice none 0 0, .slice none 0 0] 178)).drew).grown hgrow hpr; have q11 := q1.cell 1 _ rfl; have q13 := q1.frozen 1))
              all_goals
                have hp2 := LS.push hL.out hBw (((Ext.refl wc).alloc (.cells #[.int .i64 (-1), .int .i64 i', .int .i64 ((i' : Int) + 1), .slice none 0 0, .slice none 0 0] 178)).drew) (Fr.plain wc _ i' ((i' : Int) + 1)) rfl hown1 hgrow (by rcases hat with h | h; exact Or.inl h; exact Or.inr (by omega))
                have hp3 := hp2.bump (i' + 1)
                rw [show ((i' + 1 : Nat) : Int) = (i' : Int) + 1 by omega] at hp3
                replace hp3 := hidden hp3
                clear hp2
                go_wp2_with fail
                go_roundg k'
                case measure => omega
                case rel =>
                  refine ⟨i' + 1, 0 + 1, _, _, _, P', q2, _, rfl, by omega, by omega, by omega, by omega, hfl2, hidden (fun _ => by rw [T.lastT_app]; omega), hRn, hp3⟩
            · obtain ⟨kk, rfl⟩ : ∃ kk, m = kk + 1 := ⟨m - 1, by omega⟩
              obtain ⟨l0, op, fr, t, bb, ob, he, hl0⟩ := T.split_last out kk hL.out.len
              have hop1 : ¬ op = -1 := fun e => hlo (by rw [he, T.last_app, e])
              have hop2 : (op == -1) = false := by simp; exact hop1
              obtain ⟨g, rfl⟩ := hL.out.some (by omega)
              have hI : LS w wc B br (.slice (some ⟨pb, po, none⟩) n cc) C vp q q2 (.slice (some ⟨g, 0, none⟩) (kk + 1) cp) (kk + 1) (l0.app (.cons op fr t bb ob .nil)) cs i' P' := by rw [← he]; exact hL.out
              have d0 := hI.lastCell
              rw [hl0] at d0
              replace he := hidden he
              replace hl0 := hidden hl0
              clear hI
              go_wp2_with fail
              go_region_law (first | (refine step_append_lies _ (by rfl) _ _ _ (by rfl) w.heap.size 178 i0 (.agg #[.int .i64 0, .int .i64 0, .int .i64 0, .slice none 0 0, .slice none 0 0]) 5 72 Tryz.underlying128 hi0 hz0 hz1 hz2 rfl (by decide) (.slice (some ⟨g, 0, none⟩) (kk + 1) cp) (kk + 1) cs (by rfl) ((World.ownsRow.alloc hL.out.own _).drew) ⟨wc.heap.size, 0, none⟩ 1 1 [.int .i64 (-1), .int .i64 i', .int .i64 ((i' : Int) + 1), .slice none 0 0, .slice none 0 0] (by rfl) (by rfl) (World.news_of_block (cs := #[.int .i64 (-1), .int .i64 i', .int .i64 ((i' : Int) + 1), .slice none 0 0, .slice none 0 0]) (t := 178) (fr := (0, 0)) (heap_alloc_new wc _)) (by simp [Value.oneCell']) (by omega) (by unfold maxLen; omega) (by omega) (by simp; omega) (wc.heap.size + 1) (by simp) ?_; intro gg cap w1 hown1 hgrow hat hlt1; have q1 := ((hbl.alloc (.cells #[.int .i64 (-1), .int .i64 i', .int .i64 ((i' : Int) + 1), .slice none 0 0, .slice none 0 0] 178)).drew).grown hgrow hpr; have q11 := q1.cell 1 _ rfl; have q13 := q1.frozen 1))
              all_goals
                have hp2 := LS.push hL.out hBw (((Ext.refl wc).alloc (.cells #[.int .i64 (-1), .int .i64 i', .int .i64 ((i' : Int) + 1), .slice none 0 0, .slice none 0 0] 178)).drew) (Fr.plain wc _ i' ((i' : Int) + 1)) rfl hown1 hgrow (by rcases hat with h | h; exact Or.inl h; exact Or.inr (by omega))
                have hp3 := hp2.bump (i' + 1)
                rw [show ((i' + 1 : Nat) : Int) = (i' : Int) + 1 by omega] at hp3
                replace hp3 := hidden hp3
                clear hp2
                go_wp2_with fail
                go_roundg k'
                case measure => omega
                case rel =>
                  refine ⟨i' + 1, (kk + 1) + 1, _, _, _, P', q2, _, rfl, by omega, by omega, by omega, by omega, hfl2, hidden (fun _ => by rw [T.lastT_app]; omega), hRn, hp3⟩
    · have hltD : decide ((i' : Int) < (n : Int)) = false := by simp; omega
      have hRe : R = .ok (out, i', P', lqL q') := by
        rw [← hR'.out]; unfold lstF; rw [if_pos (by rw [hn.out]; omega)]
      go_wp2_with fail
      go_region
      go_wp2_with fail
      go_ret
      show LstPost _ _ _ _ _ _ _ R _ _
      rw [hRe]
      exact hL.out.drew.done
end Go.Proofs.YtgjjklajipekdaaGreat
