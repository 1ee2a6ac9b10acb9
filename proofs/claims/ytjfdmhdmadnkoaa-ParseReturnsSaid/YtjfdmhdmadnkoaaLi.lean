/- Layer 35: token of the stream. -/
import Derived.Test.YtjfdmhdmadnkoaaLh
import Derived.Deep.RegionHeld3
namespace Go.Proofs.Ytjfdmhdmadnkoaa
open Go.RowKit
set_option linter.unusedVariables false
attribute [local go_sem ↓] Go.wp_at_zero Go.wp_at_succ

/-- The lowest bits of a number, as many as its gamma code has, are its gamma code. -/
theorem low_gam (n : Int) (h0 : 1 ≤ n) (h1 : n ≤ 2147483647) (m : Nat) (hm : Lib.bitLen n.toNat = m + 1) : low n (2 * m + 1) = gam n := by
  obtain ⟨c1, c2⟩ := bitLen_int n h0 h1 m hm
  have hg : gam n = low 0 m ++ low n (m + 1) := by unfold gam; rw [hm]; rfl
  rw [hg]
  apply List.ext_getElem
  · rw [List.length_append, low_len, low_len, low_len]; omega
  · intro j j1 j2
    rw [low_len] at j1
    rw [List.getElem_append]
    split
    · next h =>
      rw [low_len] at h
      simp only [low, List.getElem_map, List.getElem_range]
      have e : n / 2 ^ (2 * m + 1 - 1 - j) = 0 := by
        have h2 : (2 : Int) ^ (m + 1) ≤ 2 ^ (2 * m + 1 - 1 - j) := by
          have := Nat.pow_le_pow_right (show 0 < 2 by decide) (show m + 1 ≤ 2 * m + 1 - 1 - j by omega)
          have h3 : ((2 ^ (m + 1) : Nat) : Int) ≤ ((2 ^ (2 * m + 1 - 1 - j) : Nat) : Int) := Int.ofNat_le.mpr this
          rw [Int.natCast_pow, Int.natCast_pow] at h3
          exact h3
        exact Int.ediv_eq_zero_of_lt (by omega) (by omega)
      rw [e]
      simp
    · next h =>
      rw [low_len] at h
      simp only [low, List.getElem_map, List.getElem_range, List.length_map, List.length_range]
      rw [show 2 * m + 1 - 1 - j = m + 1 - 1 - (j - m) by omega]
theorem gaB_nat (n : Int) (h0 : 1 ≤ n) (h1 : n ≤ 4096) : ∃ k : Nat, gaB n = (k : Int) ∧ low n k = gam n ∧ k ≤ 25 ∧ (gam n).length = k := by
  obtain ⟨m, hm, hm2⟩ := bl_bd n 13 h0 (by omega) (by decide)
  refine ⟨2 * m + 1, ?_, low_gam n h0 (by omega) m hm, by omega, gam_len n m hm⟩
  unfold gaB
  rw [hm]
  omega
theorem Strm.moved {w w' : World} {p B : Nat} {v : Value} {D : List Int} {c : Nat} {a : Int} (h : Strm w p B v D c a) (k : Ext w w') : Strm w' p B v D c a := ⟨h.blk.ext k, own_ext h.own k, h.wf⟩
theorem Chg.past_ext {S : List Nat} {a b c : World} (h : Ext a b) (k : Chg S b c) : Chg S a c := (Chg.of_ext S h).trans k (fun x hx => Or.inl hx)
theorem Stays.past_ext {a b : World} {v v' : Value} (h : Ext a b) (k : Stays b v v') : Stays a v v' := fun g hg => by
  rcases k g hg with h1 | h1
  · exact Or.inl h1
  · exact Or.inr (Nat.le_trans h.size h1)

theorem not_row {w : World} {p B c q : Nat} {v : Value} {D : List Int} {a : Int} {t : TypeId} {cs : List Value} (h : Strm w p B v D c a) (hB : Blk w q t cs) (ht : t ≠ 5) (hne : p < q) : q ∉ (p :: v.ownBlock.toList) := by
  intro hm
  rcases List.mem_cons.1 hm with hm | hm
  · omega
  · exact own_ne_blk h.own hB ht (Option.mem_toList.1 hm)

set_option maxHeartbeats 2000000 in
theorem ltoken_any (p B c : Nat) (a : Int) (v : Value) (Da : List Int) (L D Bt : Int) (hr : ¬ Wr (L, D, Bt)) (hb0 : 0 ≤ Bt) (hb1 : Bt ≤ 255) (hc : c ≤ 598000) (w : World) (hBw : B ≤ w.heap.size) (h : Strm w p B v Da c a) :
    Calls Try.prog 60 #[.pointer (some ⟨p, 0, none⟩), tkv (L, D, Bt)] w (LPut p B c a v Da (tb (L, D, Bt)) w) := by
  show Calls _ _ #[_, .agg #[.int .i64 L, .int .i64 D, .int .u8 Bt]] _ _
  have E0 := (Ext.refl w).alloc (.cells #[.int .i64 L, .int .i64 D, .int .u8 Bt] 60)
  have B0 := Blk.new w [.int .i64 L, .int .i64 D, .int .u8 Bt] 60
  have S0 := h.moved E0
  have hp := h.blk.lt
  obtain ⟨q, hq⟩ : ∃ q, w.heap.size = q := ⟨_, rfl⟩
  have c0 := B0.cell 0 _ rfl
  have c1 := B0.cell 1 _ rfl
  have c2 := B0.cell 2 _ rfl
  have hB1 : B ≤ (w.alloc (.cells #[.int .i64 L, .int .i64 D, .int .u8 Bt] 60)).heap.size := by rw [World.size_alloc]; omega
  replace E0 := hidden E0
  replace S0 := hidden S0
  replace B0 := hidden B0
  by_cases k0 : L = 0
  · have hE : Hid (tb (L, D, Bt) = low Bt 9) := hidden (by show tb _ = _; unfold tb; exact if_pos k0)
    subst k0
    replace hr := hidden hr
    replace h := hidden h
    clear hq
    go_enter Try.func60, Try.ntmps60
    go_wp2_with fail
    refine (lput_any p B c 9 a v Da Bt (by omega) (by omega) hb0 (by omega) _ hB1 S0.out).mono ?_
    rintro e w1 ⟨rfl, v1, S1, hS1, hC1⟩
    go_wp2_with fail
    go_end0
    rw [hE.out]
    exact ⟨rfl, v1, S1, hS1.past_ext E0.out, hC1.past_ext E0.out⟩
  · obtain ⟨hBt, a2, a3, a4, a5⟩ := Wr_copy hr k0
    simp only at hBt a2 a3 a4 a5
    clear hBt
    have hE : Hid (tb (L, D, Bt) = 1 :: (gam (L - 1) ++ gam D)) := hidden (by show tb _ = _; unfold tb; exact if_neg k0)
    have k2 : (L == 0) = false := by simp [k0]
    have y1 : IntKind.i64.wrap (L - 1) = L - 1 := IntWalk.i64_in _ (by omega)
    have C1 := gammaBits_any (L - 1) (by omega) (by omega)
    have C2 := gammaBits_any D (by omega) (by omega)
    obtain ⟨n1, hn1, hl1, hm1, hg1⟩ := gaB_nat (L - 1) (by omega) (by omega)
    obtain ⟨n2, hn2, hl2, hm2, hg2⟩ := gaB_nat D (by omega) (by omega)
    simp only [hn1] at C1
    simp only [hn2] at C2
    replace C1 := hidden C1
    replace C2 := hidden C2
    replace hl1 := hidden hl1
    replace hl2 := hidden hl2
    replace hg1 := hidden hg1
    replace hg2 := hidden hg2
    replace hr := hidden hr
    replace h := hidden h
    clear hn1 hn2 k0 hq
    go_enter Try.func60, Try.ntmps60
    go_wp2_with fail
    refine (lput_any p B c 1 a v Da 1 (by omega) (by omega) (by omega) (by omega) _ hB1 S0.out).mono ?_
    rintro e w1 ⟨rfl, v1, S1, hS1, hC1⟩
    have hpq : p < w.heap.size := hp
    have hq0 := not_row S0.out B0.out (by decide) hpq
    have B1 := B0.out.chg hC1 hq0
    have d0 := B1.cell 0 _ rfl
    have d1 := B1.cell 1 _ rfl
    have hsz1 := hC1.size
    rw [World.size_alloc] at hsz1
    have e1 : (low 1 1) = [1] := by decide
    rw [e1] at S1
    have e1l : c + [(1 : Int)].length = c + 1 := rfl
    rw [e1l] at S1
    replace S1 := hidden S1
    replace B1 := hidden B1
    replace hS1 := hidden hS1
    replace hC1 := hidden hC1
    replace hq0 := hidden hq0
    clear c0 c1 c2 e1 e1l hB1
    go_upto_region 4 with fail
    go_region_held3 (fun w' => w'.cell? ⟨w.heap.size, 0, none⟩ = some (.int .i64 L) ∧ w'.cell? ⟨w.heap.size, 1, none⟩ = some (.int .i64 D)) (go_keep)
      (first | (go_at_call 54; with_reducible refine (C1.out _).mono ?_; rintro e w5 ⟨rfl, rfl⟩) | (go_at_call 66; refine (lput_any p B (c + 1) n1 a v1 _ (L - 1) (by omega) (by omega) (by omega) (by omega) w1.drew (by show B ≤ w1.heap.size; omega) ⟨S1.out.blk, S1.out.own, S1.out.wf⟩).mono ?_; rintro e w6 ⟨rfl, v6, S6, hS6, hC6⟩; replace hC6 : Chg (p :: v1.ownBlock.toList) w1 w6 := ⟨hC6.os, hC6.tape, hC6.output, hC6.size, hC6.block⟩; replace hS6 : Stays w1 v1 v6 := hS6; have hq6 : w.heap.size ∉ (p :: v1.ownBlock.toList) := not_row S1.out B1.out (by decide) hpq; have B6 := B1.out.chg hC6 hq6; have b0 := B6.cell 0 _ rfl; have b1 := B6.cell 1 _ rfl; have hsz6 := hC6.size; replace hC6 := hidden hC6; replace hS6 := hidden hS6; replace S6 := hidden S6; replace B6 := hidden B6; replace hq6 := hidden hq6))
    clear d0 d1
    have y2 : IntKind.i64.wrap D = D := IntWalk.i64_in _ (by omega)
    go_upto_region 5 with fail
    go_region_held3 (fun w' => w'.cell? ⟨w.heap.size, 1, none⟩ = some (.int .i64 D)) (go_keep)
      (first | (go_at_call 54; with_reducible refine (C2.out _).mono ?_; rintro e w5 ⟨rfl, rfl⟩) | (go_at_call 66; refine (lput_any p B (c + 1 + (low (L - 1) n1).length) n2 a v6 _ D (by omega) (by rw [low_len]; omega) (by omega) (by omega) w6.drew (by show B ≤ w6.heap.size; omega) ⟨S6.out.blk, S6.out.own, S6.out.wf⟩).mono ?_; rintro e w7 ⟨rfl, v7, S7, hS7, hC7⟩; replace hC7 : Chg (p :: v6.ownBlock.toList) w6 w7 := ⟨hC7.os, hC7.tape, hC7.output, hC7.size, hC7.block⟩; replace hS7 : Stays w6 v6 v7 := hS7; have hq7 := not_row S6.out B6.out (by decide) hpq; have B7 := B6.out.chg hC7 hq7; have b7 := B7.cell 1 _ rfl; have hsz7 := hC7.size; replace hC7 := hidden hC7; replace hS7 := hidden hS7; replace S7 := hidden S7; replace B7 := hidden B7; replace hq7 := hidden hq7))
    go_end0
    rw [hE.out]
    have e8 : low 1 1 = [1] := by decide
    have hSS := ((hS1.out.trans hS6.out (by rw [World.size_alloc]; omega)).trans hS7.out (by rw [World.size_alloc]; omega)).past_ext E0.out
    have hCC := (((hS1.out.chg hC1.out hC6.out) |> fun z => (hS1.out.trans hS6.out (by rw [World.size_alloc]; omega)).chg z hC7.out)).past_ext E0.out
    refine ⟨rfl, v7, ?_, hSS, hCC⟩
    have hfin := S7.out
    rw [low_len, hl1.out, hl2.out, hg2.out] at hfin
    rw [show (1 : Int) :: (gam (L - 1) ++ gam D) = [1] ++ gam (L - 1) ++ gam D by simp, pshs_app, pshs_app]
    simp only [List.length_append, List.length_cons, List.length_nil, hg1.out, hg2.out, Nat.zero_add]
    rw [show c + (1 + n1 + n2) = c + 1 + n1 + n2 by omega, show c + (1 + n1) = c + 1 + n1 by omega]
    exact hfin
end Go.Proofs.Ytjfdmhdmadnkoaa
