/- Layer 35: Encode of the program. -/
import Derived.Test.YtjfdmhdmadnkoaaLi
namespace Go.Proofs.Ytjfdmhdmadnkoaa
open Go.RowKit
set_option linter.unusedVariables false
attribute [local go_sem ↓] Go.wp_at_zero Go.wp_at_succ

theorem tbs_bd (l : List (Int × Int × Int)) (h : ∀ t ∈ l, ¬ Wr t) : (tbs l).length ≤ 41 * l.length := by
  have h1 := tbs_len l h
  have h2 := sumP_bd l
  omega
theorem chkF_right {l : List (Int × Int × Int)} (h : chkF l = 0) : ∀ t ∈ l, ¬ Wr t := by
  unfold chkF at h
  split at h
  · cases h
  · exact ckL_right h
theorem Ext.chg_far {S : List Nat} {a b c : World} (h : Ext a b) (k : Chg S b c) (hS : ∀ x ∈ S, a.heap.size ≤ x) : Ext a c :=
  ((Chg.of_ext [] h).trans k (fun x hx => Or.inr (hS x hx))).ext

set_option maxRecDepth 100000 in
set_option maxHeartbeats 2000000 in
theorem lencode_any (v : Value) (l : List (Int × Int × Int)) (hok : OkTs l) (hn2 : l.length ≤ 2000) (w : World) (h : Toks w v l) :
    Calls Try.prog 46 #[v] w (ExPost w (encF l)) := by
  have hck := lchk_any v l hok w h
  obtain ⟨a, cap, rfl, h1, h2, h3⟩ := Rd.shape h
  obtain ⟨n, hn⟩ : ∃ n, l.length = n := ⟨_, rfl⟩
  have h : Rd w 3 (.slice a l.length cap) l.length (l.flatMap tkc) := h
  obtain ⟨q, hq⟩ : ∃ q, chkF l = q := ⟨_, rfl⟩
  have hE0 : q ≠ 0 → encF l = (q, []) := fun hq0 => by unfold encF; rw [hq, if_pos hq0]
  have hE1 : q = 0 → encF l = (0, pshs [] 0 (tbs l)) ∧ ∀ t ∈ l, ¬ Wr t := fun hq0 => by
    have hs := sumP_bd l
    unfold encF
    rw [hq, if_neg (by simp [hq0]), if_neg (by omega)]
    exact ⟨rfl, chkF_right (by rw [hq, hq0])⟩
  simp only [hq] at hck
  rw [hn] at h h1 hck hn2 ⊢
  clear hq
  replace hn := hidden hn
  replace h := hidden h
  replace hok := hidden hok
  replace hck := hidden hck
  by_cases hq0 : q = 0
  · subst hq0
    obtain ⟨hE1', hE2⟩ := hE1 rfl
    rw [hE1']
    replace hE2 := hidden hE2
    clear hE0 hE1 hE1'
    obtain ⟨R, hR⟩ : ∃ R, pshs [] 0 (tbs l) = R := ⟨_, rfl⟩
    rw [hR]
    replace hR := hidden hR
    go_enter Try.func46, Try.ntmps46
    go_wp2_with fail
    refine hck.out.mono ?_
    rintro e w1 ⟨rfl, g1⟩
    go_wp2_with fail
    go_loopw [5, 18] (fun s i wr => ∃ (k : Nat) (z : Int), k ≤ n ∧ i = .int .i64 (k : Int) ∧ s = .int .i64 z ∧ Hid (z = sumP (l.take k)) ∧ 0 ≤ z ∧ z ≤ 41 * (k : Int) ∧ Ext w wr) (fun _ i _ => n - (intOf i).toNat)
    case atStart => exact ⟨0, 0, by omega, rfl, rfl, by simp [sumP, Hid], by omega, by omega, g1⟩
    case round =>
      obtain ⟨k, z, hk, rfl, rfl, hz, z0, z1, hX⟩ := hrel
      by_cases hlt : k < n
      · obtain ⟨b, off, rfl, -, -⟩ := h.out.cells (by omega)
        obtain ⟨x, hx, hxm⟩ := at_lt l (k := k) (by rw [hn.out]; exact hlt)
        obtain ⟨c0, c1, c2⟩ := rd3_at tkc_len h.out k x hx _ _ _ rfl
        have htk := take_at hx
        obtain ⟨L, D, B⟩ := x
        simp only at c0 c1 c2
        have d0 := hX.cell c0
        have d1 := hX.cell c1
        have d2 := hX.cell c2
        have hpr := lprice_any L D B
        have hpb := prc_bd (L, D, B)
        obtain ⟨y, hy⟩ : ∃ y, prc (L, D, B) = y := ⟨_, rfl⟩
        simp only [hy] at hpr
        rw [hy] at hpb
        obtain ⟨y0, y1⟩ := hpb
        have hs2 : Hid (sumP (l.take (k + 1)) = z + y) := hidden (by rw [htk, sumP_snoc, ← hz.out, hy])
        replace hpr := hidden hpr
        replace hx := hidden hx
        replace hxm := hidden hxm
        clear hy htk c0 c1 c2
        go_wp2_with fail
        refine (hpr.out _).mono ?_
        rintro e w2 ⟨rfl, g2⟩
        go_wp2_with fail
        go_round
        case rel => exact ⟨k + 1, z + y, by omega, by go_num, rfl, hs2.out.symm, by omega, by omega, hX.trans g2.past⟩
        case measure => simp [intOf]; omega
      · obtain rfl : k = n := by omega
        have hz1 : ¬ 524288 < z := by omega
        clear hz
        go_wp2_with fail
        have hB0 := Blk.new wr [.slice none 0 0, .int .i64 0, .int .i64 0] 93
        have hXp := hX.alloc (.cells #[.slice none 0 0, .int .i64 0, .int .i64 0] 93)
        obtain ⟨p, hp⟩ : ∃ p, wr.heap.size = p := ⟨_, rfl⟩
        have hpw : w.heap.size ≤ p := by have := hX.size; omega
        rw [hp] at hB0
        obtain ⟨W, hW⟩ : ∃ W, wr.alloc (.cells #[.slice none 0 0, .int .i64 0, .int .i64 0] 93) = W := ⟨_, rfl⟩
        rw [hW] at hB0 hXp
        have hpW : p < W.heap.size := hB0.lt
        first | rw [hp] | skip
        first | rw [hW] | skip
        replace hp := hidden hp
        replace hW := hidden hW
        replace hB0 := hidden hB0
        go_loopw [33] (fun i wr => ∃ (k2 : Nat) (v2 : Value), k2 ≤ k ∧ i = .int .i64 (k2 : Int) ∧ Hid (Strm wr p w.heap.size v2 (pshs [] 0 (tbs (l.take k2))) (tbs (l.take k2)).length 0) ∧ Ext w wr) (fun i _ => k - (intOf i).toNat)
        case atStart => exact ⟨0, .slice none 0 0, by omega, rfl, hidden ⟨hB0.out, Own8.news _, WF.nil⟩, hXp⟩
        case round =>
          obtain ⟨k2, v2, hk2, rfl, hS, hX2⟩ := hrel
          by_cases hlt2 : k2 < k
          · obtain ⟨b, off, rfl, -, -⟩ := h.out.cells (by omega)
            obtain ⟨x, hx, hxm⟩ := at_lt l (k := k2) (by rw [hn.out]; exact hlt2)
            obtain ⟨c0, c1, c2⟩ := rd3_at tkc_len h.out k2 x hx _ _ _ rfl
            have htk := take_at hx
            have hwr := hE2.out x hxm
            obtain ⟨L, D, B⟩ := x
            obtain ⟨⟨x0, x1⟩, ⟨x2, x3⟩, x4, x5⟩ := hok.out _ hxm
            simp only at x0 x1 x2 x3 x4 x5 c0 c1 c2
            have d0 := hX2.cell c0
            have d1 := hX2.cell c1
            have d2 := hX2.cell c2
            have hlen : (tbs (l.take k2)).length ≤ 598000 := by
              have := tbs_bd (l.take k2) (fun t ht => hE2.out t (List.mem_of_mem_take ht))
              rw [List.length_take] at this
              omega
            have hs2 : Hid (tbs (l.take (k2 + 1)) = tbs (l.take k2) ++ tb (L, D, B)) := hidden (by rw [htk, tbs_snoc])
            have hsz2 := hX2.size
            have hS1 := hS.out.moved ((Ext.refl wr).alloc (.cells #[.int .i64 L, .int .i64 D, .int .u8 B] 60))
            have hs1 : w.heap.size ≤ (wr.alloc (.cells #[.int .i64 L, .int .i64 D, .int .u8 B] 60)).heap.size := by rw [World.size_alloc]; omega
            replace hs1 := hidden hs1
            replace hS1 := hidden hS1
            replace hx := hidden hx
            replace hxm := hidden hxm
            replace hwr := hidden hwr
            replace hlen := hidden hlen
            clear htk c0 c1 c2
            go_wp2_with fail
            refine (ltoken_any p w.heap.size (tbs (l.take k2)).length 0 v2 _ L D B hwr.out x4 x5 hlen.out _ hs1.out hS1.out).mono ?_
            rintro e w6 ⟨rfl, v6, S6, hS6, hC6⟩
            have hX6 : Ext w w6 := by
              refine Ext.chg_far (hX2.alloc _) hC6 (fun x hx => ?_)
              rcases List.mem_cons.1 hx with rfl | hx
              · exact hpw
              · exact (own_lt hS.out.own (Option.mem_toList.1 hx)).1
            go_wp2_with fail
            go_round
            case rel =>
              refine ⟨k2 + 1, v6, by omega, by go_num, ?_, hX6⟩
              show Strm _ _ _ _ _ _ _
              rw [hs2.out, pshs_app, List.length_append, Nat.zero_add]
              exact S6
            case measure => simp [intOf]; omega
          · obtain rfl : k2 = k := by omega
            have hS' := hS.out
            rw [List.take_of_length_le (by rw [hn.out]; exact Nat.le_refl _), hR.out] at hS'
            have c0 := hS'.blk.cell 0 _ rfl
            replace hS' := hidden hS'
            clear hS
            go_wp2_with fail
            go_ret2
            exact ⟨_, rfl, hS'.out.own, hX2⟩
  · have hq1 : (q != 0) = true := by simp [hq0]
    rw [hE0 hq0]
    clear hE0 hE1 hq0
    go_enter Try.func46, Try.ntmps46
    go_wp2_with fail
    refine hck.out.mono ?_
    rintro e w1 ⟨rfl, g1⟩
    go_wp2_with fail
    go_ret2
    exact ⟨_, rfl, Own8.news _, g1⟩
end Go.Proofs.Ytjfdmhdmadnkoaa
