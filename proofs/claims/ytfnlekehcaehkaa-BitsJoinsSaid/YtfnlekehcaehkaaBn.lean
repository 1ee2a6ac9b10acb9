/- The law BitsCodes: the walk. -/
import Derived.Test.YtfnlekehcaehkaaBm
namespace Go.Proofs.Ytfnlekehcaehkaa
open Go.RowKit
set_option linter.unusedVariables false
attribute [local go_sem ↓] Go.wp_at_zero Go.wp_at_succ

def u32s (l : List Int) : List Value := l.map (Value.int .u32)
def RdU (w : World) (v : Value) (l : List Int) : Prop := Rd w 1 v l.length (u32s l)
theorem RdU.at {w : World} {b off n cap : Nat} {l : List Int} (h : RdU w (.slice (some ⟨b, off, none⟩) n cap) l) (i : Nat) (hi : i < l.length) : w.cell? ⟨b, off + i, none⟩ = some (.int .u32 (l.getD i 0)) := by
  obtain ⟨_, a', cap', h2, _, _, _, h6⟩ := h
  simp only [Value.slice.injEq] at h2
  obtain ⟨rfl, -, rfl⟩ := h2
  obtain ⟨b', off', e, -, hc⟩ := h6 (by omega)
  simp only [Option.some.injEq, Addr.mk.injEq, and_true] at e
  obtain ⟨rfl, rfl⟩ := e
  rw [hc i (by simp [u32s]; exact hi)]
  simp [u32s, List.getD, hi]
theorem RdU.some {w : World} {a : Option Addr} {n cap : Nat} {l : List Int} (h : RdU w (.slice a n cap) l) (hn : 0 < l.length) : ∃ b off, a = Option.some ⟨b, off, none⟩ := by
  obtain ⟨_, a', cap', h2, _, _, _, h6⟩ := h
  simp only [Value.slice.injEq] at h2
  obtain ⟨rfl, -, rfl⟩ := h2
  obtain ⟨b', off', e, -, -⟩ := h6 hn
  exact ⟨b', off', e⟩
theorem cAt_bytes (l : List Int) (k : Nat) : Bytes (pshs [] 0 (cAt l k)) := (WF.pshs WF.nil (codes_01 (l.take k))).bytes
theorem cAt_dlen (l : List Int) (k : Nat) (hl : l.length ≤ 20) : (pshs [] 0 (cAt l k)).length ≤ 200 := by
  have h1 := pshs_len WF.nil (codes_01 (l.take k))
  have h2 := cAt_len l k hl
  have h3 : (pshs [] 0 (cAt l k)).length = (0 + (cAt l k).length + 7) / 8 := h1
  omega

set_option maxHeartbeats 1000000 in
theorem BitsCodes_law (v : Value) (l : List Int) (hu : ∀ x ∈ l, 0 ≤ x ∧ x ≤ 4294967295) (w : World) (h : RdU w v l) :
    Calls Try.prog 4 #[v] w fun x w' => x = .returned (.bool true) ∧ Ext w w' := by
  obtain ⟨a, cap, rfl, h1, h2, h3⟩ := Rd.shape h
  by_cases hlen : 20 < l.length
  · have hlt : (20 : Int) < (l.length : Int) := by omega
    go_enter Try.func4, Try.ntmps4
    go_wp2_with fail
    refine (awake_any _).mono ?_
    rintro e w1 ⟨rfl, g1⟩
    go_wp2_with fail
    go_ret
    exact ⟨rfl, g1⟩
  · have hlt : ¬ (20 : Int) < (l.length : Int) := by omega
    have hl : l.length ≤ 20 := by omega
    have C1 := Blk.new w [.slice none 0 0, .int .i64 0] 24
    have E1 : Ext w (w.alloc (.cells #[.slice none 0 0, .int .i64 0] 24)) := (Ext.refl w).alloc _
    obtain ⟨q, hq⟩ : ∃ q, w.heap.size = q := ⟨_, rfl⟩
    rw [hq] at C1
    have hqw : w.heap.size ≤ q := by omega
    go_enter Try.func4, Try.ntmps4
    go_wp2_with fail
    go_loopw [24] (fun i wr => ∃ (k : Nat) (v3 : Value), k ≤ l.length ∧ i = .int .i64 k ∧ Blk wr q 24 [v3, .int .i64 ((cAt l k).length : Int)] ∧ Rd8 wr v3 (pshs [] 0 (cAt l k)) ∧ (0 < (pshs [] 0 (cAt l k)).length → v3.ownBlock ≠ some q) ∧ Ext w wr) (fun i _ => (l.length - intOf i).toNat)
    case atStart => exact ⟨0, .slice none 0 0, by omega, rfl, C1, Rd8.nil _, (fun h => absurd h (by simp [cAt, codes, pshs])), E1⟩
    case round =>
      obtain ⟨k, v3, hk, rfl, hB, hR, ho, hE⟩ := hrel
      have hq' := hidden hq
      clear hq
      obtain ⟨a3, k3, rfl, s1, s2, s3⟩ := Rd.shape hR
      have hcl := cAt_len l k hl
      have hdl := cAt_dlen l k hl
      have hby := cAt_bytes l k
      by_cases hlt : k < l.length
      · have hlt' : (k : Int) < (l.length : Int) := by omega
        obtain ⟨pb, po, rfl⟩ := RdU.some h (by omega)
        have x1 := RdU.at h k hlt
        have hxu : 0 ≤ l.getD k 0 ∧ l.getD k 0 ≤ 4294967295 := by
          simp only [List.getD, hlt, List.getElem?_eq_getElem, Option.getD_some]
          exact hu _ (List.getElem_mem hlt)
        obtain ⟨hg, hgl⟩ := cAt_gam l k hlt hl
        have hmb := mv_bd (l.getD k 0)
        obtain ⟨m, hm1, hm2, -⟩ := dg_ex (l.getD k 0)
        have hdiv := dg_div (l.getD k 0)
        have hhalf := dg_half (l.getD k 0)
        have hcl2 := cAt_len l (k + 1) hl
        obtain ⟨x, hx⟩ : ∃ x, l.getD k 0 = x := ⟨_, rfl⟩
        rw [hx] at x1 hxu hg hgl hmb hm1 hdiv hhalf
        obtain ⟨M, hM⟩ : ∃ M, x % 2147483647 + 1 = M := ⟨_, rfl⟩
        have hM' : mv x = M := hM
        rw [hM'] at hg hmb hdiv hhalf
        obtain ⟨dN, hdN⟩ : ∃ d, dg x = d := ⟨_, rfl⟩
        rw [hdN] at hgl hm1 hdiv
        obtain ⟨D, hD⟩ : ∃ d, pshs [] 0 (cAt l k) = d := ⟨_, rfl⟩
        obtain ⟨D2, hD2⟩ : ∃ d, pshs [] 0 (cAt l (k + 1)) = d := ⟨_, rfl⟩
        have hD2l := cAt_dlen l (k + 1) hl
        rw [hD] at hB hR ho hg hdl hby
        rw [hD2] at hg hD2l
        obtain ⟨c, hc⟩ : ∃ c, (cAt l k).length = c := ⟨_, rfl⟩
        obtain ⟨c2, hc2⟩ : ∃ c, (cAt l (k + 1)).length = c := ⟨_, rfl⟩
        rw [hc] at hB hg hgl hcl
        rw [hc2] at hg hgl hcl2
        have y1 := hE.cell x1
        obtain ⟨u0, u1⟩ := hxu
        obtain ⟨m0, m1⟩ := hmb
        have d0 := hB.cell 0 _ rfl
        have d1 := hB.cell 1 _ rfl
        have HG := hidden hg
        have Hgl : c2 = c + (2 * dN - 1) := hgl
        have hdN2 : 1 ≤ dN ∧ dN ≤ 31 := by omega
        obtain ⟨dN1, dN2⟩ := hdN2
        have HD := hidden hD
        have HD2 := hidden hD2
        have HC := hidden hc
        have HC2 := hidden hc2
        have Hdiv := hidden hdiv
        have Hhalf := hidden hhalf
        have z1 : ((c2 : Int) != (c : Int) + 2 * (dN : Int) - 1) = false := by simp; omega
        have hc2le : c2 ≤ 2000 := by omega
        clear hg hx hM' hdN hD hD2 hc hc2 hgl Hgl hm1 hdiv hhalf x1
        go_wp2_with fail
        go_loop [7, 8] (fun s7 s8 => ∃ d : Nat, d ≤ dN ∧ s7 = .int .i64 d ∧ s8 = .int .i64 (M / 2 ^ d)) (fun s7 _ => dN - (intOf s7).toNat)
        case atStart => exact ⟨0, by omega, rfl, by simp⟩
        case round =>
          obtain ⟨d, hd, rfl, rfl⟩ := hrel
          have hX := Hdiv.out d
          have hXh := Hhalf.out d
          obtain ⟨X, hX'⟩ : ∃ X, M / 2 ^ d = X := ⟨_, rfl⟩
          rw [hX'] at hX hXh ⊢
          have hXb : X ≤ 2147483647 ∧ 0 ≤ X := by
            rw [← hX']
            exact ⟨by have := Int.ediv_le_self (2 ^ d) (show 0 ≤ M by omega); omega, Int.ediv_nonneg (by omega) (Int.le_of_lt (pow2_pos d))⟩
          obtain ⟨X1, X0⟩ := hXb
          have HXh := hidden hXh
          clear hX' hXh
          by_cases hdl : d < dN
          · have hp := hX.2 hdl
            clear hX
            go_wp2_with fail
            go_round
            case rel => exact ⟨d + 1, by omega, by go_num, by rw [← HXh.out]⟩
            case measure => simp [intOf]; omega
          · have hp : ¬ 0 < X := fun e => hdl (hX.1 e)
            clear hX
            obtain rfl : d = dN := by omega
            go_wp2_with fail
            refine (gamma_any _ D c M hby (by omega) (by omega) (by omega) _ hR).mono ?_
            rw [HG.out]
            rintro e w5 ⟨a5, k5, rfl, R5, F5, g5⟩
            have R5 : Rd8 w5 (.slice a5 D2.length k5) D2 := R5
            have B5 := (hB.ext g5).alloc (.cells #[.slice a5 D2.length k5, .int .i64 (c2 : Int)] 24)
            have N5 := Blk.new w5 [.slice a5 D2.length k5, .int .i64 (c2 : Int)] 24
            have R6 := Rd.alloc R5 (.cells #[.slice a5 D2.length k5, .int .i64 (c2 : Int)] 24)
            have E6 := (hE.trans g5).alloc (.cells #[.slice a5 D2.length k5, .int .i64 (c2 : Int)] 24)
            have b0 := B5.cell 0 _ rfl
            have b1 := B5.cell 1 _ rfl
            have f0 := B5.frozen 0
            have f1 := B5.frozen 1
            have e0 := N5.cell 0 _ rfl
            have e1 := N5.cell 1 _ rfl
            have hne := (hB.ext g5).lt
            have v0 := (hB.ext g5).cell 0 _ rfl
            have v1 := (hB.ext g5).cell 1 _ rfl
            have v2 := (hB.ext g5).frozen 0
            have v3' := (hB.ext g5).frozen 1
            have w0 := World.new_ne w5 _ v0
            have w1 := World.new_ne w5 _ v1
            have hqlt := hB.lt
            go_wp2_with fail
            go_roundw
            case rel =>
              have hC := ((Chg.refl [q] w5).setCell (p := ⟨q, 0, none⟩) (Or.inl (by simp)) (.slice a5 D2.length k5)).setCell (p := ⟨q, 1, none⟩) (Or.inl (by simp)) (.int .i64 (c2 : Int))
              refine ⟨k + 1, .slice a5 D2.length k5, by omega, by go_num, ?_, ?_, ?_, ((((hE.trans g5).setCell (p := ⟨q, 0, none⟩) hqw _).setCell (p := ⟨q, 1, none⟩) hqw _).alloc _)⟩
              · rw [HC2.out]; exact (((hB.ext g5).set 0 _).set 1 _).alloc _
              · rw [HD2.out]; exact Rd.alloc (Rd.chg R5 hC (fun x hx hn => by rw [List.mem_singleton.1 hx]; exact F5 _ hqlt)) _
              · rw [HD2.out]; exact fun _ => F5 _ hqlt
            case measure => simp [intOf]; omega
      · obtain rfl : k = l.length := by omega
        have hge : ¬ (l.length : Int) < (l.length : Int) := by omega
        obtain ⟨D, hD⟩ : ∃ d, pshs [] 0 (cAt l l.length) = d := ⟨_, rfl⟩
        obtain ⟨c, hc⟩ : ∃ c, (cAt l l.length).length = c := ⟨_, rfl⟩
        rw [hD] at hB hR ho hdl hby
        rw [hc] at hB hcl
        have HD := hidden hD
        have HC := hidden hc
        have d0 := hB.cell 0 _ rfl
        have d1 := hB.cell 1 _ rfl
        clear hD hc
        go_wp2_with fail
        go_loopw [11, 62] (fun s11 i wx => ∃ (k : Nat), k ≤ l.length ∧ i = .int .i64 k ∧ s11 = .int .i64 ((cAt l k).length : Int) ∧ Ext wr wx) (fun _ i _ => (l.length - intOf i).toNat)
        case atStart => exact ⟨0, by omega, rfl, rfl, Ext.refl _⟩
        case round =>
          obtain ⟨k, hk, rfl, rfl, hX⟩ := hrel
          have hB2 := hB.ext hX
          have hR2 := Rd.ext hR hX
          have b0 := hB2.cell 0 _ rfl
          have b1 := hB2.cell 1 _ rfl
          have hcl2 := cAt_len l k hl
          by_cases hlt : k < l.length
          · have hlt' : (k : Int) < (l.length : Int) := by omega
            obtain ⟨pb, po, rfl⟩ := RdU.some h (by omega)
            have x1 := RdU.at h k hlt
            have hxu : 0 ≤ l.getD k 0 ∧ l.getD k 0 ≤ 4294967295 := by
              simp only [List.getD, hlt, List.getElem?_eq_getElem, Option.getD_some]
              exact hu _ (List.getElem_mem hlt)
            obtain ⟨hg, hgl⟩ := cAt_read l k hlt hl
            rw [HD.out, HC.out] at hg
            have hmb := mv_bd (l.getD k 0)
            have hcl3 := cAt_len l (k + 1) hl
            obtain ⟨x, hx⟩ : ∃ x, l.getD k 0 = x := ⟨_, rfl⟩
            rw [hx] at x1 hxu hg hmb
            obtain ⟨M, hM⟩ : ∃ M, x % 2147483647 + 1 = M := ⟨_, rfl⟩
            have hM' : mv x = M := hM
            rw [hM'] at hg hmb
            obtain ⟨c1, hc1⟩ : ∃ c, (cAt l k).length = c := ⟨_, rfl⟩
            obtain ⟨c2, hc2⟩ : ∃ c, (cAt l (k + 1)).length = c := ⟨_, rfl⟩
            rw [hc1] at hg hgl hcl2 ⊢
            rw [hc2] at hg hgl hcl3
            have y1 := hE.cell x1
            have y2 := hX.cell y1
            obtain ⟨u0, u1⟩ := hxu
            obtain ⟨m0, m1⟩ := hmb
            have HG := hidden hg
            have HC2 := hidden hc2
            have z1 : ¬ (c2 : Int) ≤ (c1 : Int) := by omega
            clear hg hx hM' hc1 hc2 x1 y1
            go_wp2_with fail
            refine (rgamma_any _ D c c1 hby (by omega) (by omega) (by omega) (by omega) _ hR2).mono ?_
            rw [HG.out]
            rintro e w5 ⟨rfl, g5⟩
            go_wp2_with fail
            go_roundw
            case rel => exact ⟨k + 1, by omega, by go_num, by rw [HC2.out], hX.trans g5⟩
            case measure => simp [intOf]; omega
          · obtain rfl : k = l.length := by omega
            have hge : ¬ (l.length : Int) < (l.length : Int) := by omega
            rw [HC.out]
            go_wp2_with fail
            refine (awake_any _).mono ?_
            rintro e w5 ⟨rfl, g5⟩
            go_wp2_with fail
            go_ret
            exact ⟨rfl, (hE.trans hX).trans g5⟩
end Go.Proofs.Ytfnlekehcaehkaa
