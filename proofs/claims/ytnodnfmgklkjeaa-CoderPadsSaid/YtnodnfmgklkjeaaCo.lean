/- The reference's Open. -/
import Derived.Test.YtnodnfmgklkjeaaCn
namespace Go.Proofs.Ytnodnfmgklkjeaa
open Go.RowKit
set_option linter.unusedVariables false
attribute [local go_sem ↓] Go.wp_at_zero Go.wp_at_succ

set_option maxHeartbeats 1000000 in
theorem rOpen_any (v : Value) (l : List Int) (hb : Bytes l) (hl : l.length ≤ 800000) (w : World) (h : Rd8 w v l) :
    Calls Try.prog 28 #[v] w fun x w' => DPost w (opF l) x w' := by
  obtain ⟨a, cap, rfl, h1, h2, h3⟩ := Rd.shape h
  have Z1 : Blk (w.alloc (.cells #[.int .u32 0, .int .u32 0, .slice none 0 0] 44)) w.heap.size 44 [.int .u32 0, .int .u32 0, .slice none 0 0] := Blk.new w _ _
  have R1 := Rd.alloc h (.cells #[.int .u32 0, .int .u32 0, .slice none 0 0] 44)
  go_enter Try.func28, Try.ntmps28
  go_wp2_with fail
  refine (rbytes_any _ l (by omega) _ R1).mono ?_
  rintro e w1 ⟨v1, rfl, hO, g1⟩
  obtain ⟨a1, k1, rfl, s1, s2, s3⟩ := Rd.shape hO.rd
  have gA : Ext w w1 := g1.past
  have hs1 := g1.size
  simp at hs1
  have hq1 : ∀ x, x = w.heap.size ∨ x = w1.heap.size → 0 < l.length → (Value.slice a1 l.length k1).ownBlock ≠ some x := by
    intro x hx _ hv
    have := own_lt hO hv
    simp at this
    omega
  have B2 := Blk.new w1 [.int .u32 4294967295, .int .u32 0, .slice a1 l.length k1] 44
  have Z2 := (Z1.ext g1).alloc (.cells #[.int .u32 4294967295, .int .u32 0, .slice a1 l.length k1] 44)
  have R2 := Rd.alloc hO.rd (.cells #[.int .u32 4294967295, .int .u32 0, .slice a1 l.length k1] 44)
  have E2 : Ext w (w1.alloc (.cells #[.int .u32 4294967295, .int .u32 0, .slice a1 l.length k1] 44)) := gA.alloc _
  obtain ⟨q, hq⟩ : ∃ q, w1.heap.size = q := ⟨_, rfl⟩
  go_wp2_with fail
  rw [hq] at B2 hq1 hs1
  have hqw : w.heap.size < q := by omega
  go_loopw [4] (fun i wr => ∃ (j : Nat) (c' wd' : Int) (v' : Value) (l' : List Int), j ≤ 4 ∧ i = .int .i64 j ∧ Blk wr q 44 [.int .u32 wd', .int .u32 c', v'] ∧ Blk wr w.heap.size 44 [.int .u32 0, .int .u32 0, .slice none 0 0] ∧ Rd8 wr v' l' ∧ Bytes l' ∧ l'.length ≤ 800000 ∧ (∀ x, x = w.heap.size ∨ x = q → 0 < l'.length → v'.ownBlock ≠ some x) ∧ 0 ≤ c' ∧ c' ≤ 4294967295 ∧ Chg [] w wr ∧ Hid (opN (4 - j) c' l' = opN 4 0 l)) (fun i _ => (4 - intOf i).toNat)
  case atStart => exact ⟨0, 0, _, _, l, by omega, rfl, B2, Z2, R2, hb, hl, hq1, by omega, by omega, Chg.of_ext [] E2, rfl⟩
  case round =>
    obtain ⟨j, c', wd', v', l', hj, rfl, hBr, hZr, hRr, hbr, hlr, hor, b0, b1, hCr, hqq⟩ := hrel
    obtain ⟨a', k', rfl, t1, t2, t3⟩ := Rd.shape hRr
    have r0 := hBr.cell 0 _ rfl
    have r1 := hBr.cell 1 _ rfl
    have r2 := hBr.cell 2 _ rfl
    have f0 := hBr.frozen 0
    have f1 := hBr.frozen 1
    have f2 := hBr.frozen 2
    by_cases hlt : j < 4
    · go_wp2_with fail
      refine (rshift_any wd' c' _ l' hbr b0 b1 _ hRr).mono ?_
      rintro e w2 ⟨a2, k2, rfl, hR2, ho2, g2⟩
      have hbm := hbr.tail
      have hlm : l'.tail.length ≤ 800000 := by simp; omega
      have hon : Hid (opN (4 - (j + 1)) (shC c' l') l'.tail = opN 4 0 l) := by have h := hqq.out; rw [show 4 - j = (4 - (j + 1)) + 1 by omega] at h; exact h
      obtain ⟨m, hm⟩ : ∃ m, l'.tail = m := ⟨_, rfl⟩
      rw [hm] at hR2 ho2 hbm hlm hon ⊢
      have HM := hidden hm
      clear hm
      have hB2 := hBr.ext g2
      have r0 := hB2.cell 0 _ rfl
      have r1 := hB2.cell 1 _ rfl
      have r2 := hB2.cell 2 _ rfl
      have f0 := hB2.frozen 0
      have f1 := hB2.frozen 1
      have f2 := hB2.frozen 2
      have hZ2 := hZr.ext g2
      go_wp2_with fail
      go_roundw
      case rel =>
        have hC := (((Chg.refl [q] w2).setCell (p := ⟨q, 0, none⟩) (Or.inl (by simp)) (.int .u32 (wd' * 256 % 4294967296))).setCell (p := ⟨q, 1, none⟩) (Or.inl (by simp)) (.int .u32 (shC c' l'))).setCell (p := ⟨q, 2, none⟩) (Or.inl (by simp)) (.slice a2 m.length k2)
        have ho3 : ∀ x, x = w.heap.size ∨ x = q → 0 < m.length → (Value.slice a2 m.length k2).ownBlock ≠ some x := fun x hx => ho2 x (hor x hx)
        exact ⟨j + 1, shC c' l', wd' * 256 % 4294967296, .slice a2 m.length k2, m, by omega, by go_num, ((hB2.set 0 _).set 1 _).set 2 _, hZ2.chg hC (show w.heap.size ∉ [q] by simp; omega), Rd.chg hR2 hC (show ∀ x ∈ [q], _ by intro x hx; simp at hx; subst hx; exact ho3 _ (Or.inr rfl)), hbm, hlm, ho3, (shC_bd _ _).1, (shC_bd _ _).2, (hCr.trans (Chg.of_ext [] g2) (by simp)).trans hC (show ∀ x ∈ [q], x ∈ [] ∨ w.heap.size ≤ x by intro x hx; simp at hx; subst hx; exact Or.inr (by omega)), hon⟩
      case measure => simp [intOf]; omega
    · obtain rfl : j = 4 := by omega
      have hres : Hid (opF l = (4294967295, c', l')) := by
        have h : (c', l') = opN 4 0 l := hqq.out
        unfold opF
        rw [← h]; rfl
      have z0 := hZr.cell 0 _ rfl
      have z1 := hZr.cell 1 _ rfl
      have z2 := hZr.cell 2 _ rfl
      have y0 := hZr.frozen 0
      have y1 := hZr.frozen 1
      have y2 := hZr.frozen 2
      have hne : q ≠ w.heap.size := by omega
      go_wp2_with fail
      refine bodyPost_ret (v := .agg #[.int .u32 4294967295, .int .u32 c', .slice a' l'.length k']) (by simp [results, Try.results28, go_sem, z0, z1, z2]) rfl ?_
      rw [hres.out]
      have hC := (((hCr.setCell (p := ⟨q, 0, none⟩) (Or.inr (by simp; omega)) (.int .u32 4294967295)).setCell (p := ⟨w.heap.size, 0, none⟩) (Or.inr (by simp)) (.int .u32 4294967295)).setCell (p := ⟨w.heap.size, 1, none⟩) (Or.inr (by simp)) (.int .u32 c')).setCell (p := ⟨w.heap.size, 2, none⟩) (Or.inr (by simp)) (.slice a' l'.length k')
      have hD := ((((Chg.refl [w.heap.size, q] wr).setCell (p := ⟨q, 0, none⟩) (Or.inl (by simp)) (.int .u32 4294967295)).setCell (p := ⟨w.heap.size, 0, none⟩) (Or.inl (by simp)) (.int .u32 4294967295)).setCell (p := ⟨w.heap.size, 1, none⟩) (Or.inl (by simp)) (.int .u32 c')).setCell (p := ⟨w.heap.size, 2, none⟩) (Or.inl (by simp)) (.slice a' l'.length k')
      exact ⟨a', k', rfl, Rd.chg hRr hD (by intro x hx; simp at hx; exact hor x hx), hC.ext⟩

end Go.Proofs.Ytnodnfmgklkjeaa
