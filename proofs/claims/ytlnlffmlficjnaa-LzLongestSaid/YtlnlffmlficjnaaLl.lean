/- Layer 35: Encode of the reference. -/
import Derived.Test.YtlnlffmlficjnaaLk
namespace Go.Proofs.Ytlnlffmlficjnaa
open Go.RowKit
set_option linter.unusedVariables false
attribute [local go_sem ↓] Go.wp_at_zero Go.wp_at_succ

/-- What Encode of the reference leaves: bytes that are read. -/
def EnPost (w : World) (r : Int × List Int) (x : Ending) (w' : World) : Prop :=
  ∃ v', x = .returned (.tuple #[v', .int .i64 r.1]) ∧ Rd8 w' v' r.2 ∧ Ext w w'
set_option maxRecDepth 100000 in
set_option maxHeartbeats 2000000 in
theorem rencode_any (v : Value) (l : List (Int × Int × Int)) (hok : OkTs l) (hn2 : l.length ≤ 2000) (w : World) (h : Toks w v l) :
    Calls Try.prog 20 #[v] w (EnPost w (encF l)) := by
  have hck := rchk_any v l hok w h
  obtain ⟨a, cap, rfl, h1, h2, h3⟩ := Rd.shape h
  obtain ⟨n, hn⟩ : ∃ n, l.length = n := ⟨_, rfl⟩
  have h : Rd w 3 (.slice a l.length cap) l.length (l.flatMap tkc) := h
  obtain ⟨q, hq⟩ : ∃ q, chkF l = q := ⟨_, rfl⟩
  have hE0 : q ≠ 0 → encF l = (q, []) := fun hq0 => by unfold encF; rw [hq, if_pos hq0]
  have hE1 : q = 0 → encF l = (0, pshs [] 0 (tbs l)) ∧ ∀ t ∈ l, ¬ Wr t := fun hq0 => by
    have hs := sumP_bd l
    unfold encF
    rw [hq, if_neg (by simp [hq0]), if_neg (by omega)]
    exact ⟨rfl, chkF_right (by rw [hq, hq0])⟩
  simp only [hq] at hck
  rw [hn] at h h1 hck hn2 ⊢
  clear hq
  replace hn := hidden hn
  replace h := hidden h
  replace hok := hidden hok
  replace hck := hidden hck
  by_cases hq0 : q = 0
  · subst hq0
    obtain ⟨hE1', hE2⟩ := hE1 rfl
    rw [hE1']
    replace hE2 := hidden hE2
    clear hE0 hE1 hE1'
    obtain ⟨R, hR⟩ : ∃ R, pshs [] 0 (tbs l) = R := ⟨_, rfl⟩
    rw [hR]
    replace hR := hidden hR
    go_enter Try.func20, Try.ntmps20
    go_wp2_with fail
    refine hck.out.mono ?_
    rintro e w1 ⟨rfl, g1⟩
    go_wp2_with fail
    go_loopw [5, 6] (fun s i wr => ∃ (k : Nat) (z : Int), k ≤ n ∧ i = .int .i64 (k : Int) ∧ s = .int .i64 z ∧ Hid (z = sumP (l.take k)) ∧ 0 ≤ z ∧ z ≤ 41 * (k : Int) ∧ Ext w wr) (fun _ i _ => n - (intOf i).toNat)
    case atStart => exact ⟨0, 0, by omega, rfl, rfl, by simp [sumP, Hid], by omega, by omega, g1⟩
    case round =>
      obtain ⟨k, z, hk, rfl, rfl, hz, z0, z1, hX⟩ := hrel
      by_cases hlt : k < n
      · obtain ⟨b, off, rfl, -, -⟩ := h.out.cells (by omega)
        obtain ⟨x, hx, hxm⟩ := at_lt l (k := k) (by rw [hn.out]; exact hlt)
        obtain ⟨c0, c1, c2⟩ := rd3_at tkc_len h.out k x hx _ _ _ rfl
        have htk := take_at hx
        obtain ⟨L, D, B⟩ := x
        simp only at c0 c1 c2
        have d0 := hX.cell c0
        have d1 := hX.cell c1
        have d2 := hX.cell c2
        have hpr := rprice_any L D B
        have hpb := prc_bd (L, D, B)
        obtain ⟨y, hy⟩ : ∃ y, prc (L, D, B) = y := ⟨_, rfl⟩
        simp only [hy] at hpr
        rw [hy] at hpb
        obtain ⟨y0, y1⟩ := hpb
        have hs2 : Hid (sumP (l.take (k + 1)) = z + y) := hidden (by rw [htk, sumP_snoc, ← hz.out, hy])
        replace hpr := hidden hpr
        replace hx := hidden hx
        replace hxm := hidden hxm
        clear hy htk c0 c1 c2
        go_wp2_with fail
        refine (hpr.out _).mono ?_
        rintro e w2 ⟨rfl, g2⟩
        go_wp2_with fail
        go_round
        case rel => exact ⟨k + 1, z + y, by omega, by go_num, rfl, hs2.out.symm, by omega, by omega, hX.trans g2⟩
        case measure => simp [intOf]; omega
      · obtain rfl : k = n := by omega
        have hz1 : ¬ 524288 < z := by omega
        clear hz
        go_wp2_with fail
        have hB0 := Blk.new wr [.slice none 0 0, .int .i64 0] 57
        have hXp := hX.alloc (.cells #[.slice none 0 0, .int .i64 0] 57)
        obtain ⟨p, hp⟩ : ∃ p, wr.heap.size = p := ⟨_, rfl⟩
        have hpw : w.heap.size ≤ p := by have := hX.size; omega
        rw [hp] at hB0
        obtain ⟨W, hW⟩ : ∃ W, wr.alloc (.cells #[.slice none 0 0, .int .i64 0] 57) = W := ⟨_, rfl⟩
        rw [hW] at hB0 hXp
        have hpW : p < W.heap.size := hB0.lt
        first | rw [hp] | skip
        first | rw [hW] | skip
        replace hp := hidden hp
        replace hW := hidden hW
        replace hB0 := hidden hB0
        go_loopw [8] (fun i wr => ∃ (k2 m2 c2 : Nat) (a2 : Option Addr), k2 ≤ k ∧ i = .int .i64 (k2 : Int) ∧ Hid (Blk wr p 57 [.slice a2 m2 c2, .int .i64 ((tbs (l.take k2)).length : Int)]) ∧ Hid (Rd8 wr (.slice a2 m2 c2) (pshs [] 0 (tbs (l.take k2)))) ∧ Hid ((.slice a2 m2 c2 : Value).ownBlock ≠ some p) ∧ Ext w wr) (fun i _ => k - (intOf i).toNat)
        case atStart => exact ⟨0, 0, 0, none, by omega, rfl, hB0, Rd8.nil _, hidden (by simp [Value.ownBlock]), hXp⟩
        case round =>
          obtain ⟨k2, m2, cc2, a2, hk2, rfl, hB2, hR2, hF2, hX2⟩ := hrel
          obtain ⟨W2, hWW⟩ : ∃ Z, Z = wr := ⟨_, rfl⟩
          subst hWW
          by_cases hlt2 : k2 < k
          · obtain ⟨b, off, rfl, -, -⟩ := h.out.cells (by omega)
            obtain ⟨x, hx, hxm⟩ := at_lt l (k := k2) (by rw [hn.out]; exact hlt2)
            obtain ⟨c0, c1, c2⟩ := rd3_at tkc_len h.out k2 x hx _ _ _ rfl
            have htk := take_at hx
            have hwr := hE2.out x hxm
            obtain ⟨L, D, B⟩ := x
            obtain ⟨⟨x0, x1⟩, ⟨x2, x3⟩, x4, x5⟩ := hok.out _ hxm
            simp only at x0 x1 x2 x3 x4 x5 c0 c1 c2
            have d0 := hX2.cell c0
            have d1 := hX2.cell c1
            have d2 := hX2.cell c2
            have hlen : (tbs (l.take k2)).length ≤ 300000 := by
              have := tbs_bd (l.take k2) (fun t ht => hE2.out t (List.mem_of_mem_take ht))
              rw [List.length_take] at this
              omega
            have hwf0 := WF.pshs WF.nil (tbs_01 (l.take k2))
            rw [Nat.zero_add] at hwf0
            have hs2 : Hid (tbs (l.take (k2 + 1)) = tbs (l.take k2) ++ tb (L, D, B)) := hidden (by rw [htk, tbs_snoc])
            obtain ⟨nb, hnb⟩ : ∃ z, (tbs (l.take k2)).length = z := ⟨_, rfl⟩
            rw [hnb] at hB2 hlen hwf0
            have b0 := hB2.out.cell 0 _ rfl
            have b1 := hB2.out.cell 1 _ rfl
            replace hnb := hidden hnb
            replace hwf0 := hidden hwf0
            have hsz2 := hX2.size
            replace hx := hidden hx
            replace hxm := hidden hxm
            replace hwr := hidden hwr
            replace hlen := hidden hlen
            clear htk c0 c1 c2
            go_upto_region 15 with fail
            go_still_tail 5, (by kernel_rfl)
            change wpList _ _ _ _ _ W2.drew
            have hR3 : Rd8 W2.drew (.slice a2 m2 cc2) (pshs [] 0 (tbs (l.take k2))) := hR2.out
            have hB3 : Blk W2.drew p 57 [.slice a2 m2 cc2, .int .i64 (nb : Int)] := hB2.out
            have hX3 : Ext w W2.drew := hX2.drew
            clear b0 b1 d0 d1 d2
            generalize W2.drew = W3 at *
            replace hR3 := hidden hR3
            go_wp2_with fail
            refine (rcode_any _ _ nb L D B hwf0.out hlen.out hwr.out x4 x5 _ hR3.out).mono ?_
            rintro e w6 ⟨a6, m6, k6, rfl, R6, F6, g6⟩
            have f0 := (hB3.ext g6).frozen 0
            have f1 := (hB3.ext g6).frozen 1
            have e0 := (hB3.ext g6).cell 0 _ rfl
            have e1 := (hB3.ext g6).cell 1 _ rfl
            have hne := F6 p hB3.lt
            have hX6 := hX3.trans g6
            replace R6 := hidden R6
            replace F6 := hidden F6
            go_wp2_with fail
            go_roundw
            case rel =>
              refine ⟨k2 + 1, m6, k6, a6, by omega, by go_num, ?_, ?_, hidden hne, (hX6.setCell (p := ⟨p, 0, none⟩) hpw _).setCell (p := ⟨p, 1, none⟩) hpw _⟩
              · show Blk _ _ _ _
                rw [hs2.out, List.length_append, hnb.out]
                exact ((hB3.ext g6).set 0 _).set 1 _
              · show Rd8 _ _ _
                rw [hs2.out, pshs_app, Nat.zero_add, hnb.out]
                exact (R6.out.set hne 0 _).set hne 1 _
            case measure => simp [intOf]; omega
          · obtain rfl : k2 = k := by omega
            rw [List.take_of_length_le (by rw [hn.out]; exact Nat.le_refl _), hR.out] at hR2
            rw [List.take_of_length_le (by rw [hn.out]; exact Nat.le_refl _)] at hB2
            have c0 := hB2.out.cell 0 _ rfl
            go_wp2_with fail
            go_ret2
            exact ⟨_, rfl, hR2.out, hX2⟩
  · have hq1 : (q != 0) = true := by simp [hq0]
    rw [hE0 hq0]
    clear hE0 hE1 hq0
    go_enter Try.func20, Try.ntmps20
    go_wp2_with fail
    refine hck.out.mono ?_
    rintro e w1 ⟨rfl, g1⟩
    go_wp2_with fail
    go_ret2
    exact ⟨_, rfl, Rd8.nil _, g1⟩
end Go.Proofs.Ytlnlffmlficjnaa
