/- Layer 35: Check of lists of tokens, of the program and of the reference. -/
import Derived.Test.YtlnlffmlficjnaaLd
namespace Go.Proofs.Ytlnlffmlficjnaa
open Go.RowKit
set_option linter.unusedVariables false
attribute [local go_sem ↓] Go.wp_at_zero Go.wp_at_succ

set_option maxHeartbeats 1000000 in
theorem lchk_any (v : Value) (l : List (Int × Int × Int)) (hok : OkTs l) (w : World) (h : Toks w v l) :
    Calls Try.prog 17 #[v] w fun x w' => x = .returned (.int .i64 (chkF l)) ∧ Ext w w' := by
  obtain ⟨a, cap, rfl, h1, h2, h3⟩ := Rd.shape h
  obtain ⟨n, hn⟩ : ∃ n, l.length = n := ⟨_, rfl⟩
  have h : Rd w 3 (.slice a l.length cap) l.length (l.flatMap tkc) := h
  rw [hn] at h h1 ⊢
  replace hn := hidden hn
  replace h := hidden h
  replace hok := hidden hok
  by_cases hb : 65536 < n
  · have hE : Hid (chkF l = 6) := by show chkF l = 6; unfold chkF; rw [hn.out]; exact if_pos hb
    go_enter Try.func17, Try.ntmps17
    go_wp2_with fail
    go_ret
    exact ⟨ret_int hE.out.symm, Ext.refl _⟩
  · have hE : Hid (chkF l = ckL 0 l) := by show chkF l = _; unfold chkF; rw [hn.out]; exact if_neg hb
    go_enter Try.func17, Try.ntmps17
    go_wp2_with fail
    go_loopw [3, 12] (fun s i wr => ∃ (k : Nat) (z : Int), k ≤ n ∧ i = .int .i64 (k : Int) ∧ s = .int .i64 z ∧ 0 ≤ z ∧ z ≤ 65536 ∧ Hid (ckL 0 l = ckL z (l.drop k)) ∧ Ext w wr) (fun _ i _ => n - (intOf i).toNat)
    case atStart => exact ⟨0, 0, by omega, rfl, rfl, by omega, by omega, rfl, Ext.refl _⟩
    case round =>
      obtain ⟨k, z, hk, rfl, rfl, l0, l1, hl, hX⟩ := hrel
      by_cases hlt : k < n
      · obtain ⟨b, off, rfl, -, -⟩ := h.out.cells (by omega)
        obtain ⟨x, hx, hxm⟩ := at_lt l (k := k) (by rw [hn.out]; exact hlt)
        obtain ⟨c0, c1, c2⟩ := rd3_at tkc_len h.out k x hx _ _ _ rfl
        have hdr := drop_at hx
        obtain ⟨L, D, B⟩ := x
        obtain ⟨⟨x0, x1⟩, ⟨x2, x3⟩, x4, x5⟩ := hok.out _ hxm
        simp only at x0 x1 x2 x3 x4 x5 c0 c1 c2
        have d0 := hX.cell c0
        have d1 := hX.cell c1
        have d2 := hX.cell c2
        have hck := lcheck_any L D B z l0 l1 x2
        have hsz := lsize_any L D B
        have hok1 : ckT (L, D, B) z = 0 → 1 ≤ szT (L, D, B) ∧ z + szT (L, D, B) ≤ 65536 := fun e => ⟨szT_pos _, (ckT_ok e).2.2⟩
        have hst : Hid (ckL z (l.drop k) = if ckT (L, D, B) z ≠ 0 then ckT (L, D, B) z else ckL (z + szT (L, D, B)) (l.drop (k + 1))) := by show _ = _; rw [hdr]; rfl
        obtain ⟨q, hq⟩ : ∃ q, ckT (L, D, B) z = q := ⟨_, rfl⟩
        obtain ⟨y, hy⟩ : ∃ y, szT (L, D, B) = y := ⟨_, rfl⟩
        rw [hq, hy] at hok1
        simp only [hq, hy] at hst
        simp only [hq] at hck
        simp only [hy] at hsz
        replace hck := hidden hck
        replace hsz := hidden hsz
        replace hx := hidden hx
        replace hxm := hidden hxm
        clear hq hy hdr c0 c1 c2
        go_wp2_with fail
        refine (hck.out _).mono ?_
        rintro e w2 ⟨rfl, g2⟩
        have hX2 := hX.trans g2.past
        by_cases hq0 : q = 0
        · subst hq0
          obtain ⟨y0, y1⟩ := hok1 rfl
          clear hok1
          replace hst : Hid (ckL z (l.drop k) = ckL (z + y) (l.drop (k + 1))) := by show _ = _; rw [hst.out]; exact if_neg (by simp)
          obtain ⟨⟨e0, e1, e2⟩, -⟩ := tk_box g2
          go_wp2_with fail
          refine (hsz.out _).mono ?_
          rintro e w3 ⟨rfl, g3⟩
          go_wp2_with fail
          go_round
          case rel => exact ⟨k + 1, z + y, by omega, by go_num, rfl, by omega, by omega, by show _ = _; rw [hl.out, hst.out], hX2.trans g3⟩
          case measure => simp [intOf]; omega
        · have hq1 : (q != 0) = true := by simp [hq0]
          clear hok1
          replace hst : Hid (ckL z (l.drop k) = q) := by show _ = _; rw [hst.out]; exact if_pos hq0
          go_wp2_with fail
          go_ret
          exact ⟨ret_int (by rw [hE.out, hl.out, hst.out]), hX2⟩
      · obtain rfl : k = n := by omega
        have hE2 : Hid (ckL 0 l = 0) := by show _ = _; rw [hl.out, List.drop_of_length_le (by rw [hn.out]; exact Nat.le_refl _)]; rfl
        go_wp2_with fail
        go_ret
        exact ⟨ret_int (hE.out.trans hE2.out).symm, hX⟩

set_option maxHeartbeats 1000000 in
theorem rchk_any (v : Value) (l : List (Int × Int × Int)) (hok : OkTs l) (w : World) (h : Toks w v l) :
    Calls Try.prog 18 #[v] w fun x w' => x = .returned (.int .i64 (chkF l)) ∧ Ext w w' := by
  obtain ⟨a, cap, rfl, h1, h2, h3⟩ := Rd.shape h
  obtain ⟨n, hn⟩ : ∃ n, l.length = n := ⟨_, rfl⟩
  have h : Rd w 3 (.slice a l.length cap) l.length (l.flatMap tkc) := h
  rw [hn] at h h1 ⊢
  replace hn := hidden hn
  replace h := hidden h
  replace hok := hidden hok
  by_cases hb : 65536 < n
  · have hE : Hid (chkF l = 6) := by show chkF l = 6; unfold chkF; rw [hn.out]; exact if_pos hb
    go_enter Try.func18, Try.ntmps18
    go_wp2_with fail
    go_ret
    exact ⟨ret_int hE.out.symm, Ext.refl _⟩
  · have hE : Hid (chkF l = ckL 0 l) := by show chkF l = _; unfold chkF; rw [hn.out]; exact if_neg hb
    go_enter Try.func18, Try.ntmps18
    go_wp2_with fail
    go_loopw [3, 4] (fun s i wr => ∃ (k : Nat) (z : Int), k ≤ n ∧ i = .int .i64 (k : Int) ∧ s = .int .i64 z ∧ 0 ≤ z ∧ z ≤ 65536 ∧ Hid (ckL 0 l = ckL z (l.drop k)) ∧ Ext w wr) (fun _ i _ => n - (intOf i).toNat)
    case atStart => exact ⟨0, 0, by omega, rfl, rfl, by omega, by omega, rfl, Ext.refl _⟩
    case round =>
      obtain ⟨k, z, hk, rfl, rfl, l0, l1, hl, hX⟩ := hrel
      by_cases hlt : k < n
      · obtain ⟨b, off, rfl, -, -⟩ := h.out.cells (by omega)
        obtain ⟨x, hx, hxm⟩ := at_lt l (k := k) (by rw [hn.out]; exact hlt)
        obtain ⟨c0, c1, c2⟩ := rd3_at tkc_len h.out k x hx _ _ _ rfl
        have hdr := drop_at hx
        obtain ⟨L, D, B⟩ := x
        obtain ⟨⟨x0, x1⟩, ⟨x2, x3⟩, x4, x5⟩ := hok.out _ hxm
        simp only at x0 x1 x2 x3 x4 x5 c0 c1 c2
        have d0 := hX.cell c0
        have d1 := hX.cell c1
        have d2 := hX.cell c2
        have hck := rtoken_any L D B z l0 l1 x2
        have hsz := rsize_any L D B
        have hok1 : ckT (L, D, B) z = 0 → 1 ≤ szT (L, D, B) ∧ z + szT (L, D, B) ≤ 65536 := fun e => ⟨szT_pos _, (ckT_ok e).2.2⟩
        have hst : Hid (ckL z (l.drop k) = if ckT (L, D, B) z ≠ 0 then ckT (L, D, B) z else ckL (z + szT (L, D, B)) (l.drop (k + 1))) := by show _ = _; rw [hdr]; rfl
        obtain ⟨q, hq⟩ : ∃ q, ckT (L, D, B) z = q := ⟨_, rfl⟩
        obtain ⟨y, hy⟩ : ∃ y, szT (L, D, B) = y := ⟨_, rfl⟩
        rw [hq, hy] at hok1
        simp only [hq, hy] at hst
        simp only [hq] at hck
        simp only [hy] at hsz
        replace hck := hidden hck
        replace hsz := hidden hsz
        replace hx := hidden hx
        replace hxm := hidden hxm
        clear hq hy hdr c0 c1 c2
        go_wp2_with fail
        refine (hck.out _).mono ?_
        rintro e w2 ⟨rfl, g2⟩
        have hX2 := hX.trans g2
        by_cases hq0 : q = 0
        · subst hq0
          obtain ⟨y0, y1⟩ := hok1 rfl
          clear hok1
          replace hst : Hid (ckL z (l.drop k) = ckL (z + y) (l.drop (k + 1))) := by show _ = _; rw [hst.out]; exact if_neg (by simp)
          have e0 := g2.cell d0
          have e1 := g2.cell d1
          have e2 := g2.cell d2
          go_wp2_with fail
          refine (hsz.out _).mono ?_
          rintro e w3 ⟨rfl, g3⟩
          go_wp2_with fail
          go_round
          case rel => exact ⟨k + 1, z + y, by omega, by go_num, rfl, by omega, by omega, by show _ = _; rw [hl.out, hst.out], hX2.trans g3⟩
          case measure => simp [intOf]; omega
        · have hq1 : (q != 0) = true := by simp [hq0]
          clear hok1
          replace hst : Hid (ckL z (l.drop k) = q) := by show _ = _; rw [hst.out]; exact if_pos hq0
          go_wp2_with fail
          go_ret
          exact ⟨ret_int (by rw [hE.out, hl.out, hst.out]), hX2⟩
      · obtain rfl : k = n := by omega
        have hE2 : Hid (ckL 0 l = 0) := by show _ = _; rw [hl.out, List.drop_of_length_le (by rw [hn.out]; exact Nat.le_refl _)]; rfl
        go_wp2_with fail
        go_ret
        exact ⟨ret_int (hE.out.trans hE2.out).symm, hX⟩
end Go.Proofs.Ytlnlffmlficjnaa
