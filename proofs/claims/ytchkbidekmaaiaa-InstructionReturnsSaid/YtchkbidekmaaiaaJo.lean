/- arrays and form of package instruction. -/
import Derived.Test.YtchkbidekmaaiaaJn
import Derived.Outline
namespace Go.Proofs.Ytchkbidekmaaiaa
open Go.RowKit
set_option linter.unusedVariables false
attribute [local go_sem ↓] Go.wp_at_zero Go.wp_at_succ

set_option maxHeartbeats 1000000 in
theorem iarrays_any (v : Value) (A : List (Bool × Int)) (hA : OkA A) (w : World) (h : Arr w v A) :
    Calls Try.prog 67 #[v] w fun x w' => x = .returned (.int .i64 (arrE A)) ∧ Ext w w' := by
  obtain ⟨a, cap, rfl, h1, h2, h3⟩ := Rd.shape h
  obtain ⟨n, hn⟩ : ∃ n, A.length = n := ⟨_, rfl⟩
  have h : Rd w 2 (.slice a A.length cap) A.length (A.flatMap cA) := h
  rw [hn] at h h1 ⊢
  replace hn := hidden hn
  replace h := hidden h
  replace hA := hidden hA
  by_cases hb : 8 < n
  · have hE : Hid (arrE A = 6) := by show arrE A = 6; unfold arrE; rw [hn.out]; exact if_pos hb
    go_enter Try.func67, Try.ntmps67
    go_wp2_with fail
    go_ret
    exact ⟨ret_int hE.out.symm, Ext.refl _⟩
  · have hE : Hid (arrE A = arrs 65536 A) := by show arrE A = _; unfold arrE; rw [hn.out]; exact if_neg hb
    go_enter Try.func67, Try.ntmps67
    go_wp2_with fail
    go_loopw [3, 11] (fun l i wr => ∃ (k : Nat) (left : Int), k ≤ n ∧ i = .int .i64 (k : Int) ∧ l = .int .i64 left ∧ 0 ≤ left ∧ left ≤ 65536 ∧ Hid (arrs 65536 A = arrs left (A.drop k)) ∧ Ext w wr) (fun _ i _ => n - (intOf i).toNat)
    case atStart => exact ⟨0, 65536, by omega, rfl, rfl, by omega, by omega, rfl, Ext.refl _⟩
    case round =>
      obtain ⟨k, left, hk, rfl, rfl, l0, l1, hl, hX⟩ := hrel
      by_cases hlt : k < n
      · obtain ⟨b, off, rfl, -, -⟩ := h.out.cells (by omega)
        obtain ⟨x, hx, hxm⟩ := at_lt A (k := k) (by rw [hn.out]; exact hlt)
        obtain ⟨x0, x1⟩ := hA.out x hxm
        obtain ⟨c0, c1⟩ := rd2_at cA_len h.out k x hx _ _ rfl
        have hdr := drop_at hx
        obtain ⟨wd, sz⟩ := x
        simp only at x0 x1 c0 c1
        have d0 := hX.cell c0
        have d1 := hX.cell c1
        clear c0 c1
        replace hdr := hidden hdr
        replace hx := hidden hx
        replace hxm := hidden hxm
        go_wp2_with fail
        all_goals first
          | (go_round
             case rel => exact ⟨k + 1, left - sz, by omega, by go_num, rfl, by omega, by omega, by show _ = _; rw [hl.out, hdr.out]; exact if_neg (by simp; omega), hX.alloc _⟩
             case measure => simp [intOf]; omega)
          | (go_ret
             exact ⟨ret_int (by rw [hE.out, hl.out, hdr.out]; exact (if_pos (by simp; omega)).symm), hX.alloc _⟩)
      · obtain rfl : k = n := by omega
        have hE2 : Hid (arrs 65536 A = 0) := by show _ = _; rw [hl.out, List.drop_of_length_le (by rw [hn.out]; exact Nat.le_refl _)]; rfl
        go_wp2_with fail
        go_ret
        exact ⟨ret_int (hE.out.trans hE2.out).symm, hX⟩

set_option maxHeartbeats 2000000 in
theorem iform_any (va vc : Value) (A : List (Bool × Int)) (L : Int) (C : List (Int × Int)) (hA : OkA A) (hC : OkI C) (hL0 : -9223372036854775808 ≤ L) (hL1 : L ≤ 9223372036854775807) (w : World) (ra : Arr w va A) (rc : Cod w vc C) :
    Calls Try.prog 32 #[.agg #[va, .int .i64 L, vc]] w fun x w' => x = .returned (.int .i64 (formE A L C)) ∧ Ext w w' := by
  have hwf : True := trivial
  obtain ⟨aa, ca, rfl, a1, a2, a3⟩ := Rd.shape ra
  obtain ⟨ac, cc, rfl, c1, c2, c3⟩ := Rd.shape rc
  obtain ⟨m, hm⟩ : ∃ m, A.length = m := ⟨_, rfl⟩
  obtain ⟨n, hn⟩ : ∃ n, C.length = n := ⟨_, rfl⟩
  have h : Rd w 2 (.slice ac C.length cc) C.length (C.flatMap cI) := rc
  have hfa := fun W (g : Ext w W) => iarrays_any (.slice aa A.length ca) A hA W (Rd.ext ra g)
  obtain ⟨e0, he0⟩ : ∃ e, arrE A = e := ⟨_, rfl⟩
  rw [he0] at hfa
  rw [hn] at h c1 ⊢
  rw [hm] at hfa a1 ⊢
  replace hn := hidden hn
  replace h := hidden h
  replace hfa := hidden hfa
  replace hC := hidden hC
  clear ra rc hA hm
  by_cases hz : e0 = 0
  · subst hz
    have hE : Hid (formE A L C = if L < 0 ∨ 16 < L then 2 else if 1024 < n then 6 else codE C) := by show _ = _; unfold formE; rw [he0, if_neg (by simp), hn.out]
    clear he0
    go_enter Try.func32, Try.ntmps32
    go_wp2_with fail
    refine (hfa.out _ ((Ext.refl w).alloc _)).mono ?_
    rintro e w1 ⟨rfl, g1⟩
    obtain ⟨p0, -, pz⟩ := g1.box 0 _ rfl
    have p1 := (g1.box 1 _ rfl).1
    have p2 := (g1.box 2 _ rfl).1
    have hX := g1.past
    by_cases hL : L < 0 ∨ 16 < L
    · have hE2 : Hid (formE A L C = 2) := by show _ = _; rw [hE.out, if_pos hL]
      rcases hL with hL | hL
      · go_wp2_with fail
        go_ret
        exact ⟨ret_int hE2.out.symm, hX⟩
      · have hL' : ¬ L < 0 := by omega
        go_wp2_with fail
        go_ret
        exact ⟨ret_int hE2.out.symm, hX⟩
    · have hL' : 0 ≤ L := by omega
      have hL2 : L ≤ 16 := by omega
      by_cases hb : 1024 < n
      · have hE2 : Hid (formE A L C = 6) := by show _ = _; rw [hE.out, if_neg hL, if_pos hb]
        clear hL
        go_wp2_with fail
        go_ret
        exact ⟨ret_int hE2.out.symm, hX⟩
      · have hE2 : Hid (formE A L C = codE C) := by show _ = _; rw [hE.out, if_neg hL, if_neg hb]
        clear hL
        go_wp2_with fail
        go_loopw [30] (fun i wr => ∃ (k : Nat), k ≤ n ∧ i = .int .i64 (k : Int) ∧ Hid (codE C = codE (C.drop k)) ∧ Ext w wr) (fun i _ => n - (intOf i).toNat)
        case atStart => exact ⟨0, by omega, rfl, rfl, hX⟩
        case round =>
          obtain ⟨k, hk, rfl, hl, hX⟩ := hrel
          clear p0 p1 p2
          by_cases hlt : k < n
          · obtain ⟨b, off, rfl, -, -⟩ := h.out.cells (by omega)
            obtain ⟨x, hx, hxm⟩ := at_lt C (k := k) (by rw [hn.out]; exact hlt)
            obtain ⟨⟨x0, x1⟩, x2, x3⟩ := hC.out x hxm
            obtain ⟨c0, c1⟩ := rd2_at cI_len h.out k x hx _ _ rfl
            have hdr := drop_at hx
            obtain ⟨op, arg⟩ := x
            simp only at x0 x1 x2 x3 c0 c1
            have d0 := hX.cell c0
            have d1 := hX.cell c1
            clear c0 c1
            have hck := icheck_any op arg x2 x3
            obtain ⟨q, hq⟩ : ∃ q, chkI op arg = q := ⟨_, rfl⟩
            rw [hq] at hck
            replace hdr := hidden hdr
            replace hx := hidden hx
            replace hxm := hidden hxm
            replace hck := hidden hck
            replace hq := hidden hq
            go_wp2_with fail
            refine (hck.out _).mono ?_
            rintro e w2 ⟨rfl, g2⟩
            have hX2 := hX.trans g2.past
            by_cases hq0 : q = 0
            · subst hq0
              go_wp2_with fail
              go_round
              case rel => exact ⟨k + 1, by omega, by go_num, by show _ = _; rw [hl.out, hdr.out]; exact if_neg (by simp [hq.out]), hX2⟩
              case measure => simp [intOf]; omega
            · have hq1 : (q != 0) = true := by simp [hq0]
              go_wp2_with fail
              go_ret
              exact ⟨ret_int (by rw [hE2.out, hl.out, hdr.out]; exact ((if_pos (by rw [hq.out]; exact hq0)).trans hq.out).symm), hX2⟩
          · obtain rfl : k = n := by omega
            have hE3 : Hid (codE C = 0) := by show _ = _; rw [hl.out, List.drop_of_length_le (by rw [hn.out]; exact Nat.le_refl _)]; rfl
            go_wp2_with fail
            go_ret
            exact ⟨ret_int (hE2.out.trans hE3.out).symm, hX⟩
  · have hE : Hid (formE A L C = e0) := by show _ = _; unfold formE; rw [he0]; exact if_pos hz
    have hz' : (e0 != 0) = true := by simp [hz]
    clear he0
    go_enter Try.func32, Try.ntmps32
    go_wp2_with fail
    refine (hfa.out _ ((Ext.refl w).alloc _)).mono ?_
    rintro e w1 ⟨rfl, g1⟩
    go_wp2_with fail
    go_ret
    exact ⟨ret_int hE.out.symm, g1.past⟩
end Go.Proofs.Ytchkbidekmaaiaa
