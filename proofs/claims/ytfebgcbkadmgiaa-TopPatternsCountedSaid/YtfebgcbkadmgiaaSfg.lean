/- Layer 32: Sort. -/
import Derived.Test.YtfebgcbkadmgiaaSff
import Derived.Deep.Cut
import Derived.Laws.EntriesVeiled
import Derived.Outline
namespace Go.Proofs.Ytfebgcbkadmgiaa
open Go.RowKit
set_option linter.unusedVariables false
set_option linter.unusedSimpArgs false
attribute [local go_sem ↓] Go.wp_at_zero Go.wp_at_succ

def SortP (w : World) (b : List Int) (e : Ending) (w' : World) : Prop := ∃ o p cap, e = .returned (.tuple #[.slice (some ⟨p, 0, none⟩) (b.length + 1) cap, .int .i64 0]) ∧ Suf.IsSA b o ∧ Blk w' p 3 (nv o) ∧ w.heap.size ≤ p ∧ b.length + 1 ≤ cap ∧ cap ≤ 1000000 ∧ Ext w w'

set_option maxRecDepth 100000 in
set_option maxHeartbeats 4000000 in
theorem sort_any (v : Value) (b : List Int) (hb : Bytes b) (hn : b.length ≤ 65536) (w : World) (hr : Rd8 w v b) :
    Calls Try.prog 5 #[v] w (SortP w b) := by
  obtain ⟨ad, cap, rfl, q1, q2, q3⟩ := Rd.shape hr
  obtain ⟨n, hne⟩ : ∃ n, b.length = n := ⟨_, rfl⟩
  have hRR : Hid (Rd8 w (.slice ad n cap) b) := hidden (by rw [← hne]; exact hr)
  rw [hne] at q1 hn ⊢
  have hmk := hidden (mk_ints ((n : Int) + 1) (n + 1) (by omega) (by omega))
  have hd0 : decide (65536 < (n : Int)) = false := by simp; omega
  clear hr
  replace hne := hidden hne
  replace hb := hidden hb
  go_enter Try.func5, Try.ntmps5
  go_wp2_with fail
  rename_i KK hKK
  have v0 : IntKind.i64.wrap ((n : Int) + 1) = (n : Int) + 1 := IntWalk.i64_in _ (by omega)
  obtain ⟨nc, hnc⟩ : ∃ nc, w.heap.size = nc := ⟨_, rfl⟩
  rw [hnc]
  have main : ∀ (pb rb rc : Nat) (W : World), nc < pb → nc < rb → nc < rc → pb ≠ rb → pb ≠ rc → rb ≠ rc → Blk W nc 3 [.int .i64 (n : Int)] → Blk W pb 3 (nv (plc n 0)) → Blk W rb 3 (iv (rk1 b 0)) → Blk W rc 23 [.slice (some ⟨rb, 0, none⟩) (n + 1) (n + 1)] → Ext w W →
      KK { tmps := #[.slice ad n cap, undef, .slice none 0 0, .int .i64 0, .pointer (some ⟨nc, 0, none⟩), .slice (some ⟨pb, 0, none⟩) (n + 1) (n + 1), .pointer (some ⟨rc, 0, none⟩), undef, undef, undef, undef, undef, undef, .slice ad n cap, .int .i64 (n : Int), .bool false, .slice ad n cap, .int .i64 (n : Int), .int .i64 (n : Int), .int .i64 ((n : Int) + 1), .slice (some ⟨pb, 0, none⟩) (n + 1) (n + 1), .int .i64 (n : Int), .int .i64 ((n : Int) + 1), .slice (some ⟨rb, 0, none⟩) (n + 1) (n + 1), undef, undef, undef, undef, undef, undef, undef, undef, undef, undef, undef, undef, undef, undef, undef, undef, undef, undef, undef, undef, undef, undef, undef, undef, undef, undef, undef, undef, undef, undef, undef, undef, undef, undef, undef, undef, undef, undef, undef, undef, undef, undef, undef, undef, undef, undef, undef, undef, undef, undef, undef, undef, undef, undef, undef, undef, undef, undef, undef, undef, undef, undef, undef, undef, undef, undef, undef, undef, undef, undef, undef, undef, undef, undef, undef, undef, undef, undef, undef, undef, undef, undef, undef, undef], defers := [] } W := by
    as_aux_lemma =>
      intro pb rb rc W n1 n2 n3 d1 d2 d3 hBn hBp hBr hBc hX
      refine hKK _ _ ?_
      clear hKK
      have hnc' := hidden hnc
      clear hnc
      replace hBn := hidden hBn
      replace hBp := hidden hBp
      replace hBr := hidden hBr
      replace hBc := hidden hBc
      replace hX := hidden hX
      go_wp2_with fail
      go_loopw [26] (fun i wr => ∃ k : Nat, i = .int .i64 (k : Int) ∧ k ≤ n + 1 ∧ Hid (Blk wr pb 3 (nv (plc n k))) ∧ Hid (Blk wr rb 3 (iv (rk1 b (min k n)))) ∧ Hid (Chg [pb, rb] W wr)) (fun i _ => n + 1 - (intOf i).toNat)
      case atStart => exact ⟨0, rfl, Nat.zero_le _, hBp, hidden (by rw [Nat.zero_min]; exact hBr.out), hidden (Chg.refl _ _)⟩
      case round =>
        clear hBp hBr
        obtain ⟨k, rfl, hk, hBp, hBr, hC⟩ := hrel
        have v1 : IntKind.i64.wrap ((k : Int) + 1) = (k : Int) + 1 := IntWalk.i64_in _ (by omega)
        by_cases hlt : k < n + 1
        · have cN := (hBn.out.chg hC.out (by simp; omega)).cell 0 _ rfl
          have cC := (hBc.out.chg hC.out (by simp; omega)).cell 0 _ rfl
          have lp := hBp.out.lt
          have lr := hBr.out.lt
          have cP := hBp.out.cell k _ (nv_get _ k (by rw [plc_len (by omega)]; omega))
          have fP := hBp.out.frozen k
          have hlt2 : (k : Int) < (n : Int) + 1 := by omega
          have e1 : nc ≠ pb := by omega
          have e2 : rc ≠ pb := by omega
          have e3 : rb ≠ pb := by omega
          by_cases hkn : k < n
          · have cR := hBr.out.cell k _ (iv_get _ k (by rw [rk1_len (by rw [hne.out]; omega), hne.out]; omega))
            have fR := hBr.out.frozen k
            have hkn2 : (k : Int) < (n : Int) := by omega
            have hCW : Chg [pb, rb] W (wr.setCell ⟨pb, k, none⟩ (.int .i64 (k : Int))) := hC.out.setCell (p := ⟨pb, k, none⟩) (Or.inl (by simp)) _
            have hp2 := hBp.out.set k (.int .i64 (k : Int))
            rw [nv_set, plc_set (by omega)] at hp2
            have hr2 := hBr.out.set_other (i := k) e3 (.int .i64 (k : Int))
            rw [show min k n = k by omega] at hr2
            have hrd : Rd8 (wr.setCell ⟨pb, k, none⟩ (.int .i64 (k : Int))) (.slice ad n cap) b := (Rd.ext hRR.out hX.out).chg hCW (fun x hx _ hv => by
              have h1 : w.heap.size ≤ x := by rw [hnc'.out]; simp at hx; omega
              exact Rd.off hRR.out h1 (by assumption) hv)
            have hc2 := cC
            rw [← World.cell?_setCell_other wr ⟨pb, k, none⟩ ⟨rc, 0, none⟩ (.int .i64 (k : Int)) (by simp [Ne.symm e2])] at hc2
            replace hp2 := hidden hp2
            replace hr2 := hidden hr2
            replace hrd := hidden hrd
            replace hCW := hidden hCW
            replace hc2 := hidden hc2
            go_wp2_with fail
            obtain ⟨W1, hW1⟩ : ∃ X, wr.setCell ⟨pb, k, none⟩ (.int .i64 (k : Int)) = X := ⟨_, rfl⟩
            rw [hW1] at hp2 hr2 hrd hCW hc2 ⊢
            clear cN cC cP fP cR fR hBp hBr hC
            have hkb : k < b.length := by rw [hne.out]; exact hkn
            obtain ⟨bb, off, rfl, hbb⟩ := Rd8.some hrd.out (by omega)
            have cB := hrd.out.at k hkb
            have cR := hr2.out.cell k _ (iv_get _ k (by rw [rk1_len (by omega)]; omega))
            have fR := hr2.out.frozen k
            have cC := hc2.out
            have hby := hb.out.get k hkb
            obtain ⟨y, hy⟩ : ∃ y, b.getD k 0 = y := ⟨_, rfl⟩
            rw [hy] at cB hby
            have hr3 := hr2.out.set k (.int .i64 (y + 1))
            rw [iv_set, ← hy, rk1_set hkb, hy] at hr3
            have hp3 := hp2.out.set_other (i := k) (fun e => e3 e.symm) (.int .i64 (y + 1))
            have hC3 := hCW.out.setCell (p := ⟨rb, k, none⟩) (Or.inl (by simp)) (.int .i64 (y + 1))
            replace hr3 := hidden hr3
            replace hp3 := hidden hp3
            replace hC3 := hidden hC3
            replace hy := hidden hy
            have y1 := hby.1
            have y2 := hby.2
            clear hc2 hrd hr2 hp2 hW1 hkb hby
            go_region
            go_wp2_with fail
            go_roundw
            case rel => exact ⟨k + 1, by go_num, by omega, hp3, by rw [show min (k + 1) n = k + 1 by omega]; exact hr3, hidden (hC3.out.drew)⟩
            case measure => simp [intOf]; omega
          · have hkn2 : ¬ (k : Int) < (n : Int) := by omega
            have hkn3 : decide ((k : Int) < (n : Int)) = false := by simp; omega
            have hCW : Chg [pb, rb] W (wr.setCell ⟨pb, k, none⟩ (.int .i64 (k : Int))) := hC.out.setCell (p := ⟨pb, k, none⟩) (Or.inl (by simp)) _
            have hp2 := hBp.out.set k (.int .i64 (k : Int))
            rw [nv_set, plc_set (by omega)] at hp2
            have hr2 := hBr.out.set_other (i := k) e3 (.int .i64 (k : Int))
            rw [show min k n = min (k + 1) n by omega] at hr2
            replace hp2 := hidden hp2
            replace hr2 := hidden hr2
            replace hCW := hidden hCW
            go_wp2_with fail
            go_roundw
            case rel => exact ⟨k + 1, by go_num, by omega, hp2, hr2, hCW⟩
            case measure => simp [intOf]; omega
        · obtain rfl : k = n + 1 := by omega
          have hp := hBp.out
          have hrk := hBr.out
          rw [plc_all] at hp
          rw [show min (n + 1) n = b.length by rw [hne.out]; omega] at hrk
          have hBn2 := hBn.out.chg hC.out (by simp; omega)
          have hBc2 := hBc.out.chg hC.out (by simp; omega)
          have hX2 : Ext w wr := Chg.ext ((Chg.of_ext [] hX.out).trans hC.out (fun x hx => Or.inr (by rw [hnc'.out]; simp at hx; omega)))
          replace hp := hidden hp
          replace hrk := hidden hrk
          replace hBn2 := hidden hBn2
          replace hBc2 := hidden hBc2
          replace hX2 := hidden hX2
          clear hBp hBr hC hBn hBc hX hlt
          obtain ⟨W1, hW1⟩ : ∃ X, wr = X := ⟨_, rfl⟩
          subst hW1
          have hS : SortS w b nc pb rc 1 wr.heap.size rb (rk1 b b.length) (List.range (n + 1)) (wr.alloc (.cells #[.int .i64 1] 3)) := by
            have a1 := hBn2.out.lt
            have a2 := hp.out.lt
            have a3 := hBc2.out.lt
            have a4 := hrk.out.lt
            have a5 := hnc'.out
            refine ⟨by rw [hne.out]; exact hBn2.out.alloc _, hp.out.alloc _, Blk.new wr [.int .i64 1] _, by rw [hne.out]; exact hBc2.out.alloc _, hrk.out.alloc _, by omega, by omega, by omega, by omega, by omega, by omega, by omega, by omega, by omega, by omega, rk1_ok hb.out, by rw [hne.out], by omega, by omega, hX2.out.alloc _⟩
          replace hS := hidden hS
          clear hp hrk hBn2 hBc2 hX2
          go_wp2_with fail
          rw [show n + 1 = n + 1 from rfl]
          obtain ⟨lc1, hlc1⟩ : ∃ x, wr.heap.size = x := ⟨_, rfl⟩
          rw [hlc1] at hS ⊢
          clear hlc1
          obtain ⟨W1, hW1⟩ : ∃ X, wr.alloc (.cells #[.int .i64 1] 3) = X := ⟨_, rfl⟩
          rw [hW1] at hS ⊢
          clear hW1
          go_loopg [8] n (fun gk u8 wr => ∃ (L lc rb : Nat) (rank : List Int) (o : List Nat), u8 = .pointer (some ⟨lc, 0, none⟩) ∧ gk = n + 1 - L ∧ 0 < L ∧ (L ≤ n ∨ L = 1) ∧ Hid (SortS w b nc pb rc L lc rb rank o wr))
          case atStart => exact ⟨1, lc1, rb, _, _, rfl, by omega, by omega, Or.inr rfl, hS⟩
          case round =>
            clear hS
            obtain ⟨L, lc, rb, rank, o, rfl, hgk, hL0, hL1, hS⟩ := hrel
            obtain ⟨W2, hWW⟩ : ∃ Z, Z = wr := ⟨_, rfl⟩
            subst hWW
            go_wp2_with fail
            obtain ⟨ec, hec⟩ : ∃ x, W2.heap.size = x := ⟨_, rfl⟩
            rw [hec]
            obtain ⟨W3, hW3⟩ : ∃ X, W2.alloc (.cells #[.func (.func 14) #[] #[.pointer (some ⟨lc, 0, none⟩), .pointer (some ⟨nc, 0, none⟩), .pointer (some ⟨rc, 0, none⟩)]] 39) = X := ⟨_, rfl⟩
            rw [hW3]
            have hBE : Blk W3 ec 39 [.func (.func 14) #[] #[.pointer (some ⟨lc, 0, none⟩), .pointer (some ⟨nc, 0, none⟩), .pointer (some ⟨rc, 0, none⟩)]] := by rw [← hW3, ← hec]; exact Blk.new W2 [_] _
            have hS3 : SortS w b nc pb rc L lc rb rank o W3 := by rw [← hW3]; exact hS.out.ext' ((Ext.refl _).alloc _)
            have hne1 : ec ≠ pb := by have := hS.out.hp.lt; omega
            have hne2 : ec ≠ nc := by have := hS.out.hn.lt; omega
            have hne3 : ec ≠ rc := by have := hS.out.hc.lt; omega
            have hne4 : ec ≠ lc := by have := hS.out.hl.lt; omega
            have hne5 : ec ≠ rb := by have := hS.out.hr.lt; omega
            have hec0 : w.heap.size ≤ ec := by have := hS.out.ext.size; omega
            have cn3 := hS3.hn.cell 0 _ rfl
            have cc3 := hS3.hc.cell 0 _ rfl
            have hcall := sort_call b L rank o lc nc rc rb (b.length + 1) ec pb (n + 1) (by have := hS3.p1; omega) (by rw [hne.out]; exact hn) hS3.ok hS3.perm W3 (hS3.hl.cell 0 _ rfl) cn3 cc3 (hS3.rk (Chg.refl _ _)) (hBE.cell 0 _ rfl) hS3.hp hS3.d3 hS3.d1 hS3.d2 hS3.d4 hne1
            simp only [hne.out] at hcall
            clear cn3 cc3
            replace hS3 := hidden hS3
            replace hBE := hidden hBE
            clear hS hW3
            refine hcall.mono ?_
            clear hcall
            rintro e w4 ⟨rfl, o2, ho2, hA2, hC4, hP4⟩
            rw [← hne.out] at ho2
            have hS4 := hS3.out.sorted hC4 hP4 ho2
            have hE4 := hBE.out.chg hC4 (by simp [hne1])
            have cN := hS4.hn.cell 0 _ rfl
            rw [hne.out] at cN
            have hm1 := hmk.out
            have hA2' := hidden hA2
            have ho2' := hidden ho2
            replace hS4 := hidden hS4
            replace hE4 := hidden hE4
            clear hS3 hBE hA2 ho2 hC4 hP4 hec
            go_wp2_with fail
            clear hm1 cN
            have hS5 := hS4.out.ext' ((Ext.refl w4).alloc (.cells (madeCells (Value.int .i64 0).cells (n + 1)) 3))
            have hE5 := hE4.out.alloc (.cells (madeCells (Value.int .i64 0).cells (n + 1)) 3)
            have hB5 := blk_made w4 (n + 1) 3
            obtain ⟨xb, hxb⟩ : ∃ x, w4.heap.size = x := ⟨_, rfl⟩
            have x1 : pb ≠ xb := by have := hS4.out.hp.lt; omega
            have x2 : nc ≠ xb := by have := hS4.out.hn.lt; omega
            have x3 : rc ≠ xb := by have := hS4.out.hc.lt; omega
            have x4 : lc ≠ xb := by have := hS4.out.hl.lt; omega
            have x5 : rb ≠ xb := by have := hS4.out.hr.lt; omega
            have x6 : ec ≠ xb := by have := hE4.out.lt; omega
            have x7 : w.heap.size ≤ xb := by have := hS4.out.ext.size; omega
            rw [hxb] at hB5 ⊢
            clear hxb hS4 hE4
            change SortS _ _ _ _ _ _ _ _ _ _ (w4.alloc (.cells (madeCells #[.int .i64 0] (n + 1)) 3)) at hS5
            change Blk (w4.alloc (.cells (madeCells #[.int .i64 0] (n + 1)) 3)) _ _ _ at hE5
            change Blk (w4.alloc (.cells (madeCells #[.int .i64 0] (n + 1)) 3)) _ _ _ at hB5
            obtain ⟨W5, hW5⟩ : ∃ X, w4.alloc (.cells (madeCells #[.int .i64 0] (n + 1)) 3) = X := ⟨_, rfl⟩
            rw [hW5] at hS5 hE5 hB5 ⊢
            clear hW5
            have hol : o2.length = n + 1 := by rw [ho2'.out.length_eq, hne.out]; simp
            have hole : ∀ k, k ≤ n → o2.getD k 0 ≤ n := fun k hk => by
              have h3 : o2.getD k 0 ∈ o2 := by rw [List.getD_eq_getElem?_getD, List.getElem?_eq_getElem (by omega)]; exact List.getElem_mem (by omega)
              have h4 := List.mem_range.1 (ho2'.out.mem_iff.1 h3)
              rw [hne.out] at h4
              omega
            replace hS5 := hidden hS5
            replace hE5 := hidden hE5
            replace hB5 := hidden hB5
            replace hol := hidden hol
            replace hole := hidden hole
            go_loopw [12] (fun i wr => ∃ (j : Nat) (nx : List Int), i = .int .i64 ((j : Int) + 1) ∧ j ≤ n ∧ Hid (NxOk b (L + L) o2 (j + 1) nx) ∧ Hid (Blk wr xb 3 (iv nx)) ∧ Hid (Chg [xb] W5 wr)) (fun i _ => n + 1 - (intOf i).toNat)
            case atStart => exact ⟨0, List.replicate (n + 1) 0, rfl, by omega, hidden (by rw [← hne.out]; exact NxOk.start), hB5, hidden (Chg.refl _ _)⟩
            case round =>
              clear hB5
              obtain ⟨j, nx, rfl, hj, hN, hB, hC⟩ := hrel
              have hS6 := hS5.out.chg hC.out x2 x1 x4 x3 x5 x7
              have cN := hS6.hn.cell 0 _ rfl
              rw [hne.out] at cN
              obtain ⟨w6, hWW⟩ : ∃ Z, Z = wr := ⟨_, rfl⟩
              subst hWW
              by_cases hlt : j < n
              · have v2 : IntKind.i64.wrap ((j : Int) + 1) = (j : Int) + 1 := IntWalk.i64_in _ (by omega)
                have v3 : IntKind.i64.wrap ((j : Int) + 1 + 1) = (j : Int) + 1 + 1 := IntWalk.i64_in _ (by omega)
                have v4 : IntKind.i64.wrap ((j : Int) + 1 - 1) = (j : Int) := by rw [IntWalk.i64_in _ (by omega)]; omega
                have j1 : (j : Int) + 1 ≤ (n : Int) := by omega
                have j2 : (j : Int) + 1 < (n : Int) + 1 := by omega
                have j3 : (j : Int) < (n : Int) + 1 := by omega
                have j4 : ((j : Int) + 1).toNat = j + 1 := by omega
                have v5 : IntKind.i64.wrap (j : Int) = (j : Int) := IntWalk.i64_in _ (by omega)
                have j5 : 0 ≤ (j : Int) + 1 := by omega
                have j6 : ¬ (j : Int) + 1 < 0 := by omega
                have cp := hS6.hp.cell j _ (nv_get o2 j (by rw [hol.out]; omega))
                have cq := hS6.hp.cell (j + 1) _ (nv_get o2 (j + 1) (by rw [hol.out]; omega))
                have hp0 := hole.out j (by omega)
                have hq0 := hole.out (j + 1) (by omega)
                have hcl := hN.out.2 j (by omega)
                have hnl : nx.length = n + 1 := by rw [hN.out.1, hne.out]
                have hstep := cls_step b L o2 rank hS6.ok j ho2'.out (by rw [hol.out]; omega)
                have hcmp : ∀ W, Chg [xb] w6 W → Calls Try.prog 15 #[.int .i64 ((o2.getD j 0 : Nat) : Int), .int .i64 ((o2.getD (j + 1) 0 : Nat) : Int), .pointer (some ⟨rc, 0, none⟩), .pointer (some ⟨ec, 0, none⟩)] W fun e w' => e = .returned (.int .i64 (Suf.cmpR b L rank (o2.getD j 0) (o2.getD (j + 1) 0))) ∧ Ext W w' := by
                  intro W hW
                  have h6 := hS6.chg hW x2 x1 x4 x3 x5 x7
                  have g6 := hE5.out.chg ((hC.out).trans hW (by simp)) (by simp [x6])
                  refine (compare_any b L rank _ _ lc nc rc rb (b.length + 1) ec (by rw [hne.out]; exact hp0) (by rw [hne.out]; exact hq0) (by have := h6.p1; omega) (by rw [hne.out]; exact hn) h6.ok.len W (h6.hl.cell 0 _ rfl) (h6.hn.cell 0 _ rfl) (h6.hc.cell 0 _ rfl) (h6.rk (Chg.refl _ _)) (g6.cell 0 _ rfl)).mono ?_
                  rintro e w' ⟨rfl, q', os', rfl⟩
                  exact ⟨rfl, ext_grow _ _ _⟩
                obtain ⟨R, hR⟩ : ∃ R, Suf.cmpR b L rank (o2.getD j 0) (o2.getD (j + 1) 0) = R := ⟨_, rfl⟩
                rw [hR] at hcmp hstep
                obtain ⟨p, hpe⟩ : ∃ p, o2.getD j 0 = p := ⟨_, rfl⟩
                obtain ⟨q, hqe⟩ : ∃ q, o2.getD (j + 1) 0 = q := ⟨_, rfl⟩
                obtain ⟨c, hce⟩ : ∃ c, Suf.cls b (L + L) o2 j = c := ⟨_, rfl⟩
                have hcb := Suf.cls_le (b := b) (L := L + L) (o := o2) j
                rw [hpe] at cp hp0 hcl hcmp
                rw [hqe] at cq hq0 hcmp
                rw [hce] at hcl hstep hcb
                have c1 := hcb.1
                have c2 := hcb.2
                have cx := hB.out.cell p _ (iv_get nx p (by omega))
                rw [hcl] at cx
                have cy := hB.out.cell q _ (iv_get nx q (by omega))
                have fy := hB.out.frozen q
                have p1 : (p : Int) < (n : Int) + 1 := by omega
                have p2 : (q : Int) < (n : Int) + 1 := by omega
                have hb1 := hB.out.set q (.int .i64 c)
                rw [iv_set] at hb1
                have hc1 := hC.out.setCell (p := ⟨xb, q, none⟩) (Or.inl (by simp)) (.int .i64 c)
                replace hcmp := hidden hcmp
                replace hstep := hidden hstep
                replace hb1 := hidden hb1
                replace hc1 := hidden hc1
                replace hS6 := hidden hS6
                have hqe' := hidden hqe
                have hnl' := hidden hnl
                clear hR hpe hqe hce hcl hcb hnl hB hC hp0 hq0
                have k1 := cp
                have k2 := cq
                rw [← World.cell?_setCell_other w6 ⟨xb, q, none⟩ ⟨pb, j, none⟩ (.int .i64 c) (by simp [Ne.symm x1])] at k1
                rw [← World.cell?_setCell_other w6 ⟨xb, q, none⟩ ⟨pb, j + 1, none⟩ (.int .i64 c) (by simp [Ne.symm x1])] at k2
                have hX6 : Chg [xb] w6 (w6.setCell ⟨xb, q, none⟩ (.int .i64 c)) := (Chg.refl _ _).setCell (p := ⟨xb, q, none⟩) (Or.inl (by simp)) _
                replace k1 := hidden k1
                replace k2 := hidden k2
                replace hX6 := hidden hX6
                go_wp2_with fail
                go_region
                go_wp2_with fail
                obtain ⟨W6, hW6⟩ : ∃ X, w6.setCell ⟨xb, q, none⟩ (.int .i64 c) = X := ⟨_, rfl⟩
                rw [hW6] at k1 k2 hb1 hc1 hX6 ⊢
                clear hW6 cN cp cq cx cy fy
                have k1' : W6.drew.drew.cell? ⟨pb, j, none⟩ = some (.int .i64 (p : Int)) := k1.out
                have k2' : W6.drew.drew.cell? ⟨pb, j + 1, none⟩ = some (.int .i64 (q : Int)) := k2.out
                clear k1 k2
                have k1 := k1'
                have k2 := k2'
                have hX7 : Chg [xb] w6 W6.drew.drew := hX6.out.drew.drew
                replace hX6 := hX7
                have hX6' := hidden hX6
                clear hX7 k1' k2'
                refine wp_region_D (S := fun w' => w'.cell? ⟨pb, j, none⟩ = some (.int .i64 (p : Int)) ∧ w'.cell? ⟨pb, j + 1, none⟩ = some (.int .i64 (q : Int))) (D := [10, 11]) (by kernel_rfl) ⟨k1, k2⟩ (fun HS => ?_)
                refine takeD 0 [10, 11] (.func (.func 15) #[] #[.pointer (some ⟨rc, 0, none⟩), .pointer (some ⟨ec, 0, none⟩)]) rfl rfl (by kernel_rfl) (by kernel_rfl) (by kernel_rfl) (by kernel_rfl) (by decide) (by decide) (fun _ _ _ h => h) (by rfl) (fun w' hw' => by obtain ⟨s1, s2⟩ := hw'; go_simp) HS ?_
                try simp only [List.setIfInBounds_toArray, List.set_cons_zero, List.set_cons_succ]
                refine takeD 1 [4, 5, 10, 11] (.slice (some ⟨pb, 0, none⟩) (n + 1) (n + 1)) rfl rfl (by kernel_rfl) (by kernel_rfl) (by kernel_rfl) (by kernel_rfl) (by decide) (by decide) (fun _ _ _ h => h) (by rfl) (fun w' hw' => by obtain ⟨s1, s2⟩ := hw'; go_simp) HS ?_
                try simp only [List.setIfInBounds_toArray, List.set_cons_zero, List.set_cons_succ]
                refine takeD 2 [3, 4, 5, 10, 11] (.int .i64 ((j : Int) + 1)) rfl rfl (by kernel_rfl) (by kernel_rfl) (by kernel_rfl) (by kernel_rfl) (by decide) (by decide) (fun _ _ _ h => h) (by rfl) (fun w' hw' => by obtain ⟨s1, s2⟩ := hw'; go_simp) HS ?_
                try simp only [List.setIfInBounds_toArray, List.set_cons_zero, List.set_cons_succ]
                refine takeD 3 [4, 5, 10, 11] (.int .i64 (j : Int)) rfl rfl (by kernel_rfl) (by kernel_rfl) (by kernel_rfl) (by kernel_rfl) (by decide) (by decide) (fun _ _ _ h => h) (by rfl) (fun w' hw' => by obtain ⟨s1, s2⟩ := hw'; go_simp) HS ?_
                try simp only [List.setIfInBounds_toArray, List.set_cons_zero, List.set_cons_succ]
                refine takeD 4 [5, 10, 11] (.pointer (some ⟨pb, j, none⟩)) rfl rfl (by kernel_rfl) (by kernel_rfl) (by kernel_rfl) (by kernel_rfl) (by decide) (by decide) (fun _ _ _ h => h) (by rfl) (fun w' hw' => by obtain ⟨s1, s2⟩ := hw'; go_simp) HS ?_
                try simp only [List.setIfInBounds_toArray, List.set_cons_zero, List.set_cons_succ]
                refine takeD 5 [10, 11] (.int .i64 (p : Int)) rfl rfl (by kernel_rfl) (by kernel_rfl) (by kernel_rfl) (by kernel_rfl) (by decide) (by decide) (fun _ _ _ h => h) (by rfl) (fun w' hw' => by obtain ⟨s1, s2⟩ := hw'; go_simp) HS ?_
                try simp only [List.setIfInBounds_toArray, List.set_cons_zero, List.set_cons_succ]
                refine takeD 6 [8, 9, 10, 11] (.slice (some ⟨pb, 0, none⟩) (n + 1) (n + 1)) rfl rfl (by kernel_rfl) (by kernel_rfl) (by kernel_rfl) (by kernel_rfl) (by decide) (by decide) (fun _ _ _ h => h) (by rfl) (fun w' hw' => by obtain ⟨s1, s2⟩ := hw'; go_simp) HS ?_
                try simp only [List.setIfInBounds_toArray, List.set_cons_zero, List.set_cons_succ]
                refine takeD 7 [8, 9, 10, 11] (.int .i64 ((j : Int) + 1)) rfl rfl (by kernel_rfl) (by kernel_rfl) (by kernel_rfl) (by kernel_rfl) (by decide) (by decide) (fun _ _ _ h => h) (by rfl) (fun w' hw' => by obtain ⟨s1, s2⟩ := hw'; go_simp) HS ?_
                try simp only [List.setIfInBounds_toArray, List.set_cons_zero, List.set_cons_succ]
                refine takeD 8 [9, 10, 11] (.pointer (some ⟨pb, j + 1, none⟩)) rfl rfl (by kernel_rfl) (by kernel_rfl) (by kernel_rfl) (by kernel_rfl) (by decide) (by decide) (fun _ _ _ h => h) (by rfl) (fun w' hw' => by obtain ⟨s1, s2⟩ := hw'; go_simp) HS ?_
                try simp only [List.setIfInBounds_toArray, List.set_cons_zero, List.set_cons_succ]
                refine takeD 9 [10, 11] (.int .i64 (q : Int)) rfl rfl (by kernel_rfl) (by kernel_rfl) (by kernel_rfl) (by kernel_rfl) (by decide) (by decide) (fun _ _ _ h => h) (by rfl) (fun w' hw' => by obtain ⟨s1, s2⟩ := hw'; go_simp) HS ?_
                try simp only [List.setIfInBounds_toArray, List.set_cons_zero, List.set_cons_succ]
                refine callVD 10 15 #[.int .i64 (p : Int), .int .i64 (q : Int), .pointer (some ⟨rc, 0, none⟩), .pointer (some ⟨ec, 0, none⟩)] rfl rfl (by kernel_rfl) (by rfl) (by go_simp) (hcmp.out _ hX6) ?_
                rintro e w7 ⟨rfl, hX7⟩
                refine Or.inl ⟨_, rfl, fun h => absurd (by decide) h, ?_⟩
                try simp only [Act.put, List.setIfInBounds_toArray, List.set_cons_zero, List.set_cons_succ]
                refine valueD 11 (.bool (R != 0)) rfl rfl (by kernel_rfl) (by rfl) (w' := w7) (by go_simp) (fun h => absurd (by decide) h) ?_
                try simp only [List.setIfInBounds_toArray, List.set_cons_zero, List.set_cons_succ]
                refine wpAnyD_done (by kernel_rfl) ?_ _
                have hB7 := hb1.out.drew.drew.ext hX7
                have hC7 : Chg [xb] W5 w7 := (hc1.out.drew.drew).trans (Chg.of_ext [] hX7) (by simp)
                clear hX6 k1 k2 HS
                by_cases hR0 : R = 0
                · subst hR0
                  have hN2 : NxOk b (L + L) o2 (j + 2) (nx.set q c) := by
                    rw [← hqe'.out]
                    exact hN.out.step ho2'.out (by rw [hol.out]; omega) (by rw [hstep.out, if_pos rfl])
                  replace hB7 := hidden hB7
                  replace hC7 := hidden hC7
                  replace hN2 := hidden hN2
                  have z : ((0 : Int) != 0) = false := rfl
                  rw [z]
                  go_wp2_with fail
                  go_roundw
                  case rel => exact ⟨j + 1, _, by go_num, by omega, hN2, hB7, hC7⟩
                  case measure => simp [intOf]; omega
                · have z : (R != 0) = true := by simpa using hR0
                  rw [z]
                  have hN2 : NxOk b (L + L) o2 (j + 2) ((nx.set q c).set q (c + 1)) := by
                    rw [List.set_set, ← hqe'.out]
                    exact hN.out.step ho2'.out (by rw [hol.out]; omega) (by rw [hstep.out, if_neg hR0])
                  have cq := (hS6.out.chg (W' := w7) ((hX6'.out).trans (Chg.of_ext [] hX7) (by simp)) x2 x1 x4 x3 x5 x7).hp.cell (j + 1) _ (nv_get o2 (j + 1) (by rw [hol.out]; omega))
                  rw [hqe'.out] at cq
                  have cy := hB7.cell q _ (iv_get _ q (by rw [List.length_set, hnl'.out]; omega))
                  rw [getD_set _ _ _ _ (by rw [hnl'.out]; omega), if_pos rfl] at cy
                  have fy := hB7.frozen q
                  have hB8 := hB7.set q (.int .i64 (c + 1))
                  rw [iv_set] at hB8
                  have hC8 := hC7.setCell (p := ⟨xb, q, none⟩) (Or.inl (by simp)) (.int .i64 (c + 1))
                  replace hB8 := hidden hB8
                  replace hC8 := hidden hC8
                  replace hN2 := hidden hN2
                  have v6 : IntKind.i64.wrap (c + 1) = c + 1 := IntWalk.i64_in _ (by omega)
                  clear hB7 hC7 hX7 hR0
                  go_wp2_with fail
                  go_roundw
                  case rel => exact ⟨j + 1, _, by go_num, by omega, hN2, hB8, hC8⟩
                  case measure => simp [intOf]; omega
              · have hjn : j = n := by omega
                have j1 : ¬ (j : Int) + 1 ≤ (n : Int) := by omega
                have hN' : NxOk b (L + L) o2 (b.length + 1) nx := by rw [hne.out, ← hjn]; exact hN.out
                have hRk := hN'.done hA2'.out ho2'.out (by omega)
                have hcl := hN'.2 n (by rw [hne.out]; omega)
                have cC := hS6.hc.cell 0 _ rfl
                have fC := hS6.hc.frozen 0
                have hnl : nx.length = n + 1 := by rw [hN.out.1, hne.out]
                obtain ⟨q, hqe⟩ : ∃ q, o2.getD n 0 = q := ⟨_, rfl⟩
                obtain ⟨c, hce⟩ : ∃ c, Suf.cls b (L + L) o2 n = c := ⟨_, rfl⟩
                rw [hqe, hce] at hcl
                have hq0 := hole.out n (by omega)
                rw [hqe] at hq0
                have cq := hS6.hp.cell n _ (nv_get o2 n (by rw [hol.out]; omega))
                rw [hqe] at cq
                have cx := hB.out.cell q _ (iv_get nx q (by omega))
                rw [hcl] at cx
                have cl := hS6.hl.cell 0 _ rfl
                have d1 := hS6.d1
                have d2 := hS6.d2
                have d5 := hS6.d5
                have d7 := hS6.d7
                have q1' : (q : Int) < (n : Int) + 1 := by omega
                have q2' : (n : Int) < (n : Int) + 1 := by omega
                have hb8 : Blk (w6.setCell ⟨rc, 0, none⟩ (.slice (some ⟨xb, 0, none⟩) (n + 1) (n + 1))) rc 23 [.slice (some ⟨xb, 0, none⟩) (n + 1) (n + 1)] := hS6.hc.set 0 _
                have hC8 : Chg [rc] w6 (w6.setCell ⟨rc, 0, none⟩ (.slice (some ⟨xb, 0, none⟩) (n + 1) (n + 1))) := (Chg.refl _ _).setCell (p := ⟨rc, 0, none⟩) (Or.inl (by simp)) _
                have k1 := hC8.cell (by simp [d5]) cN
                have k2 := hC8.cell (by simp [Ne.symm d2]) cq
                have k3 := hC8.cell (by simp [Ne.symm x3]) cx
                have k4 := hC8.cell (by simp [d7]) cl
                have k5 := hb8.cell 0 _ rfl
                have hp8 := hS6.hp.chg hC8 (by simp [Ne.symm d2])
                have hn8 := hS6.hn.chg hC8 (by simp [d5])
                have hr8 := hB.out.chg hC8 (by simp [Ne.symm x3])
                have hE8 : Ext w (w6.setCell ⟨rc, 0, none⟩ (.slice (some ⟨xb, 0, none⟩) (n + 1) (n + 1))) := Ext.setCell hS6.ext (p := ⟨rc, 0, none⟩) hS6.l3 _
                replace k1 := hidden k1
                replace k2 := hidden k2
                replace k3 := hidden k3
                replace k4 := hidden k4
                replace k5 := hidden k5
                replace hb8 := hidden hb8
                replace hC8 := hidden hC8
                replace hE8 := hidden hE8
                replace hp8 := hidden hp8
                replace hn8 := hidden hn8
                replace hr8 := hidden hr8
                replace hS6 := hidden hS6
                replace hRk := hidden hRk
                replace hce := hidden hce
                replace hjn := hidden hjn
                replace hnl := hidden hnl
                clear cq cx cl hqe hcl hN' hN hB hC d1 d2 d5 d7
                go_wp2_with fail
                obtain ⟨W8, hW8⟩ : ∃ X, w6.setCell ⟨rc, 0, none⟩ (.slice (some ⟨xb, 0, none⟩) (n + 1) (n + 1)) = X := ⟨_, rfl⟩
                rw [hW8] at k1 k2 k3 k4 k5 hb8 hC8 hE8 hp8 hn8 hr8 ⊢
                clear hW8 cN cC fC
                have g1 := k1.out
                have g2 := k2.out
                have g3 := k3.out
                have g4 := k4.out
                have g5 := k5.out
                clear k1 k2 k3 k4 k5
                by_cases hcn : c = (n : Int)
                · have hsa := Suf.sa_done hA2'.out ho2'.out (by rw [hne.out, hce.out, hcn])
                  have z : (c == (n : Int)) = true := by simpa using hcn
                  replace hsa := hidden hsa
                  replace hcn := hidden hcn
                  go_region
                  go_wp2_with fail
                  go_ret2
                  exact ⟨o2, pb, n + 1, by rw [hne.out]; rfl, hsa.out, hp8.out, hS6.out.l2, by rw [hne.out]; omega, by omega, hE8.out.drew⟩
                · have z : (c == (n : Int)) = false := by simpa using hcn
                  have hLn : L + L ≤ n := by
                    rcases Nat.lt_or_ge n (L + L) with h | h
                    · exfalso
                      apply hcn
                      have := Suf.cls_long ho2'.out (by rw [hne.out]; exact h) n (by rw [hol.out]; omega)
                      rw [hce.out] at this
                      exact this
                    · exact h
                  replace hcn := hidden hcn
                  have v7 : IntKind.i64.wrap ((L : Int) * 2) = (L : Int) * 2 := IntWalk.i64_in _ (by omega)
                  have hL2 : ((L : Int) * 2) = ((L + L : Nat) : Int) := by omega
                  have hS9 : SortS w b nc pb rc (L + L) W8.heap.size xb nx o2 ((W8.alloc (.cells #[.int .i64 ((L : Int) * 2)] 3)).drew) := by
                    have a1 := hn8.out.lt
                    have a2 := hp8.out.lt
                    have a3 := hb8.out.lt
                    have a4 := hr8.out.lt
                    have s6 := hS6.out
                    refine ⟨hn8.out.alloc _, hp8.out.alloc _, ?_, by rw [hne.out]; exact hb8.out.alloc _, hr8.out.alloc _, s6.d1, s6.d2, by omega, Ne.symm x1, s6.d5, Ne.symm x3, by omega, s6.l1, s6.l2, s6.l3, hRk.out, ho2'.out, by omega, by omega, (hE8.out.alloc _).drew⟩
                    rw [hL2]
                    exact Blk.new W8 [.int .i64 ((L + L : Nat) : Int)] _
                  replace hS9 := hidden hS9
                  clear hL2
                  go_region
                  go_wp2_with fail
                  go_roundg (n + 1 - (L + L))
                  case rel => exact ⟨L + L, W8.heap.size, xb, nx, o2, rfl, rfl, by omega, by omega, hS9⟩
                  case measure => omega
  have hs0 : (w.alloc (.cells #[.int .i64 (n : Int)] 3)).heap.size = nc + 1 := by rw [World.size_alloc, hnc]
  have hB0 : Blk (w.alloc (.cells #[.int .i64 (n : Int)] 3)) nc 3 [.int .i64 (n : Int)] := by rw [← hnc]; exact Blk.new w [_] _
  have hX0 := (Ext.refl w).alloc (.cells #[.int .i64 (n : Int)] 3)
  obtain ⟨W0, hW0⟩ : ∃ X, w.alloc (.cells #[.int .i64 (n : Int)] 3) = X := ⟨_, rfl⟩
  rw [hW0] at hs0 hB0 hX0 ⊢
  clear hW0
  have hS : W0.drew.cell? ⟨nc, 0, none⟩ = some (.int .i64 (n : Int)) := hB0.cell 0 _ rfl
  have hm1 := hmk.out
  refine wp_region_held_drew (S := fun w' => w'.cell? ⟨nc, 0, none⟩ = some (.int .i64 (n : Int))) (by kernel_rfl) hS (fun _ => ?_)
  refine takeH 0 (.int .i64 (n : Int)) rfl rfl (by kernel_rfl) (by kernel_rfl) (by kernel_rfl) (fun _ _ _ h => h) (by rfl) (fun w' hw' => by go_simp) hS ?_
  try simp only [List.setIfInBounds_toArray, List.set_cons_zero, List.set_cons_succ]
  refine takeH 1 (.int .i64 ((n : Int) + 1)) rfl rfl (by kernel_rfl) (by kernel_rfl) (by kernel_rfl) (fun _ _ _ h => h) (by rfl) (fun w' hw' => by go_simp) hS ?_
  try simp only [List.setIfInBounds_toArray, List.set_cons_zero, List.set_cons_succ]
  refine takeH 3 (.int .i64 (n : Int)) rfl rfl (by kernel_rfl) (by kernel_rfl) (by kernel_rfl) (fun _ _ _ h => h) (by rfl) (fun w' hw' => by go_simp) hS ?_
  try simp only [List.setIfInBounds_toArray, List.set_cons_zero, List.set_cons_succ]
  refine takeH 4 (.int .i64 ((n : Int) + 1)) rfl rfl (by kernel_rfl) (by kernel_rfl) (by kernel_rfl) (fun _ _ _ h => h) (by rfl) (fun w' hw' => by go_simp) hS ?_
  try simp only [List.setIfInBounds_toArray, List.set_cons_zero, List.set_cons_succ]
  refine wpAnyH_all (rs := [2, 5, 6]) (by kernel_rfl) (by simp) ?_
  intro i hi
  rcases List.mem_cons.1 hi with rfl | hi
  · have hS2 : (W0.drew.alloc (.cells (madeCells (Value.int .i64 0).cells (n + 1)) 3)).cell? ⟨nc, 0, none⟩ = some (.int .i64 (n : Int)) := Ext.cell ((Ext.refl _).alloc _) hS
    refine wpOp_value 2 (.slice (some ⟨nc + 1, 0, none⟩) (n + 1) (n + 1)) rfl rfl (by rfl) (w' := (W0.drew.alloc (.cells (madeCells (Value.int .i64 0).cells (n + 1)) 3))) (by go_simp) ⟨hS2, ?_⟩
    try simp only [List.setIfInBounds_toArray, List.set_cons_zero, List.set_cons_succ]
    refine wpAnyH_all (rs := [5, 6]) (by kernel_rfl) (by simp) ?_
    intro i hi
    rcases List.mem_cons.1 hi with rfl | hi
    · have hS25 : ((W0.drew.alloc (.cells (madeCells (Value.int .i64 0).cells (n + 1)) 3)).alloc (.cells (madeCells (Value.int .i64 0).cells (n + 1)) 3)).cell? ⟨nc, 0, none⟩ = some (.int .i64 (n : Int)) := Ext.cell ((Ext.refl _).alloc _) hS2
      refine wpOp_value 5 (.slice (some ⟨nc + 1 + 1, 0, none⟩) (n + 1) (n + 1)) rfl rfl (by rfl) (w' := ((W0.drew.alloc (.cells (madeCells (Value.int .i64 0).cells (n + 1)) 3)).alloc (.cells (madeCells (Value.int .i64 0).cells (n + 1)) 3))) (by go_simp) ⟨hS25, ?_⟩
      try simp only [List.setIfInBounds_toArray, List.set_cons_zero, List.set_cons_succ]
      refine wpAnyH_all (rs := [6]) (by kernel_rfl) (by simp) ?_
      intro i hi
      obtain rfl : i = 6 := by simpa using hi
      have hS256 : (((W0.drew.alloc (.cells (madeCells (Value.int .i64 0).cells (n + 1)) 3)).alloc (.cells (madeCells (Value.int .i64 0).cells (n + 1)) 3)).alloc (.cells #[.slice none 0 0] 23)).cell? ⟨nc, 0, none⟩ = some (.int .i64 (n : Int)) := Ext.cell ((Ext.refl _).alloc _) hS25
      refine wpOp_value 6 (.pointer (some ⟨nc + 1 + 1 + 1, 0, none⟩)) rfl rfl (by rfl) (w' := (((W0.drew.alloc (.cells (madeCells (Value.int .i64 0).cells (n + 1)) 3)).alloc (.cells (madeCells (Value.int .i64 0).cells (n + 1)) 3)).alloc (.cells #[.slice none 0 0] 23))) (by go_simp) ⟨hS256, ?_⟩
      try simp only [List.setIfInBounds_toArray, List.set_cons_zero, List.set_cons_succ]
      refine takeH 7 (.slice (some ⟨nc + 1, 0, none⟩) (n + 1) (n + 1)) rfl rfl (by kernel_rfl) (by kernel_rfl) (by kernel_rfl) (fun _ _ _ h => h) (by rfl) (fun w' hw' => by go_simp) hS256 ?_
      try simp only [List.setIfInBounds_toArray, List.set_cons_zero, List.set_cons_succ]
      refine storeH 8 rfl rfl (by kernel_rfl) (by rfl) (w' := (((W0.drew.alloc (.cells (madeCells (Value.int .i64 0).cells (n + 1)) 3)).alloc (.cells (madeCells (Value.int .i64 0).cells (n + 1)) 3)).alloc (.cells #[.slice none 0 0] 23)).setCell ⟨nc + 1 + 1 + 1, 0, none⟩ (.slice (some ⟨nc + 1 + 1, 0, none⟩) (n + 1) (n + 1))) (by go_simp) ?_ ?_
      · exact set_other (by simp <;> omega) hS256
      try simp only [List.setIfInBounds_toArray, List.set_cons_zero, List.set_cons_succ]
      refine wpAnyH_done (by kernel_rfl) ?_ _
      have bp := (((blk_made (W0.drew) (n + 1) 3).alloc (.cells (madeCells (Value.int .i64 0).cells (n + 1)) 3)).alloc (.cells #[.slice none 0 0] 23))
      have br := ((blk_made ((W0.drew.alloc (.cells (madeCells (Value.int .i64 0).cells (n + 1)) 3))) (n + 1) 3).alloc (.cells #[.slice none 0 0] 23))
      have bc := (Blk.new (((W0.drew.alloc (.cells (madeCells (Value.int .i64 0).cells (n + 1)) 3)).alloc (.cells (madeCells (Value.int .i64 0).cells (n + 1)) 3))) [.slice none 0 0] 23)
      simp only [World.size_alloc, World.size_drew, hs0] at bp br bc
      refine main (nc + 1) (nc + 1 + 1) (nc + 1 + 1 + 1) _ (by omega) (by omega) (by omega) (by omega) (by omega) (by omega) ?_ ?_ ?_ ?_ ?_
      · exact Blk.set_other ((((hB0.drew.alloc _).alloc _).alloc _)) (by omega) _
      · rw [← zeros_plc, nv_zeros]; exact Blk.set_other bp (by omega) _
      · rw [← zeros_rk1, hne.out]; exact Blk.set_other br (by omega) _
      · exact bc.set 0 _
      · exact Ext.setCell ((((hX0.drew.alloc _).alloc _).alloc _)) (by simp only []; omega) _
    · obtain rfl : i = 6 := by simpa using hi
      have hS26 : ((W0.drew.alloc (.cells (madeCells (Value.int .i64 0).cells (n + 1)) 3)).alloc (.cells #[.slice none 0 0] 23)).cell? ⟨nc, 0, none⟩ = some (.int .i64 (n : Int)) := Ext.cell ((Ext.refl _).alloc _) hS2
      refine wpOp_value 6 (.pointer (some ⟨nc + 1 + 1, 0, none⟩)) rfl rfl (by rfl) (w' := ((W0.drew.alloc (.cells (madeCells (Value.int .i64 0).cells (n + 1)) 3)).alloc (.cells #[.slice none 0 0] 23))) (by go_simp) ⟨hS26, ?_⟩
      try simp only [List.setIfInBounds_toArray, List.set_cons_zero, List.set_cons_succ]
      refine takeH 7 (.slice (some ⟨nc + 1, 0, none⟩) (n + 1) (n + 1)) rfl rfl (by kernel_rfl) (by kernel_rfl) (by kernel_rfl) (fun _ _ _ h => h) (by rfl) (fun w' hw' => by go_simp) hS26 ?_
      try simp only [List.setIfInBounds_toArray, List.set_cons_zero, List.set_cons_succ]
      refine wpAnyH_all (rs := [5]) (by kernel_rfl) (by simp) ?_
      intro i hi
      obtain rfl : i = 5 := by simpa using hi
      have hS265 : (((W0.drew.alloc (.cells (madeCells (Value.int .i64 0).cells (n + 1)) 3)).alloc (.cells #[.slice none 0 0] 23)).alloc (.cells (madeCells (Value.int .i64 0).cells (n + 1)) 3)).cell? ⟨nc, 0, none⟩ = some (.int .i64 (n : Int)) := Ext.cell ((Ext.refl _).alloc _) hS26
      refine wpOp_value 5 (.slice (some ⟨nc + 1 + 1 + 1, 0, none⟩) (n + 1) (n + 1)) rfl rfl (by rfl) (w' := (((W0.drew.alloc (.cells (madeCells (Value.int .i64 0).cells (n + 1)) 3)).alloc (.cells #[.slice none 0 0] 23)).alloc (.cells (madeCells (Value.int .i64 0).cells (n + 1)) 3))) (by go_simp) ⟨hS265, ?_⟩
      try simp only [List.setIfInBounds_toArray, List.set_cons_zero, List.set_cons_succ]
      refine storeH 8 rfl rfl (by kernel_rfl) (by rfl) (w' := (((W0.drew.alloc (.cells (madeCells (Value.int .i64 0).cells (n + 1)) 3)).alloc (.cells #[.slice none 0 0] 23)).alloc (.cells (madeCells (Value.int .i64 0).cells (n + 1)) 3)).setCell ⟨nc + 1 + 1, 0, none⟩ (.slice (some ⟨nc + 1 + 1 + 1, 0, none⟩) (n + 1) (n + 1))) (by go_simp) ?_ ?_
      · exact set_other (by simp <;> omega) hS265
      try simp only [List.setIfInBounds_toArray, List.set_cons_zero, List.set_cons_succ]
      refine wpAnyH_done (by kernel_rfl) ?_ _
      have bp := (((blk_made (W0.drew) (n + 1) 3).alloc (.cells #[.slice none 0 0] 23)).alloc (.cells (madeCells (Value.int .i64 0).cells (n + 1)) 3))
      have br := (blk_made (((W0.drew.alloc (.cells (madeCells (Value.int .i64 0).cells (n + 1)) 3)).alloc (.cells #[.slice none 0 0] 23))) (n + 1) 3)
      have bc := ((Blk.new ((W0.drew.alloc (.cells (madeCells (Value.int .i64 0).cells (n + 1)) 3))) [.slice none 0 0] 23).alloc (.cells (madeCells (Value.int .i64 0).cells (n + 1)) 3))
      simp only [World.size_alloc, World.size_drew, hs0] at bp br bc
      refine main (nc + 1) (nc + 1 + 1 + 1) (nc + 1 + 1) _ (by omega) (by omega) (by omega) (by omega) (by omega) (by omega) ?_ ?_ ?_ ?_ ?_
      · exact Blk.set_other ((((hB0.drew.alloc _).alloc _).alloc _)) (by omega) _
      · rw [← zeros_plc, nv_zeros]; exact Blk.set_other bp (by omega) _
      · rw [← zeros_rk1, hne.out]; exact Blk.set_other br (by omega) _
      · exact bc.set 0 _
      · exact Ext.setCell ((((hX0.drew.alloc _).alloc _).alloc _)) (by simp only []; omega) _
  rcases List.mem_cons.1 hi with rfl | hi
  · have hS5 : (W0.drew.alloc (.cells (madeCells (Value.int .i64 0).cells (n + 1)) 3)).cell? ⟨nc, 0, none⟩ = some (.int .i64 (n : Int)) := Ext.cell ((Ext.refl _).alloc _) hS
    refine wpOp_value 5 (.slice (some ⟨nc + 1, 0, none⟩) (n + 1) (n + 1)) rfl rfl (by rfl) (w' := (W0.drew.alloc (.cells (madeCells (Value.int .i64 0).cells (n + 1)) 3))) (by go_simp) ⟨hS5, ?_⟩
    try simp only [List.setIfInBounds_toArray, List.set_cons_zero, List.set_cons_succ]
    refine wpAnyH_all (rs := [2, 6]) (by kernel_rfl) (by simp) ?_
    intro i hi
    rcases List.mem_cons.1 hi with rfl | hi
    · have hS52 : ((W0.drew.alloc (.cells (madeCells (Value.int .i64 0).cells (n + 1)) 3)).alloc (.cells (madeCells (Value.int .i64 0).cells (n + 1)) 3)).cell? ⟨nc, 0, none⟩ = some (.int .i64 (n : Int)) := Ext.cell ((Ext.refl _).alloc _) hS5
      refine wpOp_value 2 (.slice (some ⟨nc + 1 + 1, 0, none⟩) (n + 1) (n + 1)) rfl rfl (by rfl) (w' := ((W0.drew.alloc (.cells (madeCells (Value.int .i64 0).cells (n + 1)) 3)).alloc (.cells (madeCells (Value.int .i64 0).cells (n + 1)) 3))) (by go_simp) ⟨hS52, ?_⟩
      try simp only [List.setIfInBounds_toArray, List.set_cons_zero, List.set_cons_succ]
      refine wpAnyH_all (rs := [6]) (by kernel_rfl) (by simp) ?_
      intro i hi
      obtain rfl : i = 6 := by simpa using hi
      have hS526 : (((W0.drew.alloc (.cells (madeCells (Value.int .i64 0).cells (n + 1)) 3)).alloc (.cells (madeCells (Value.int .i64 0).cells (n + 1)) 3)).alloc (.cells #[.slice none 0 0] 23)).cell? ⟨nc, 0, none⟩ = some (.int .i64 (n : Int)) := Ext.cell ((Ext.refl _).alloc _) hS52
      refine wpOp_value 6 (.pointer (some ⟨nc + 1 + 1 + 1, 0, none⟩)) rfl rfl (by rfl) (w' := (((W0.drew.alloc (.cells (madeCells (Value.int .i64 0).cells (n + 1)) 3)).alloc (.cells (madeCells (Value.int .i64 0).cells (n + 1)) 3)).alloc (.cells #[.slice none 0 0] 23))) (by go_simp) ⟨hS526, ?_⟩
      try simp only [List.setIfInBounds_toArray, List.set_cons_zero, List.set_cons_succ]
      refine takeH 7 (.slice (some ⟨nc + 1 + 1, 0, none⟩) (n + 1) (n + 1)) rfl rfl (by kernel_rfl) (by kernel_rfl) (by kernel_rfl) (fun _ _ _ h => h) (by rfl) (fun w' hw' => by go_simp) hS526 ?_
      try simp only [List.setIfInBounds_toArray, List.set_cons_zero, List.set_cons_succ]
      refine storeH 8 rfl rfl (by kernel_rfl) (by rfl) (w' := (((W0.drew.alloc (.cells (madeCells (Value.int .i64 0).cells (n + 1)) 3)).alloc (.cells (madeCells (Value.int .i64 0).cells (n + 1)) 3)).alloc (.cells #[.slice none 0 0] 23)).setCell ⟨nc + 1 + 1 + 1, 0, none⟩ (.slice (some ⟨nc + 1, 0, none⟩) (n + 1) (n + 1))) (by go_simp) ?_ ?_
      · exact set_other (by simp <;> omega) hS526
      try simp only [List.setIfInBounds_toArray, List.set_cons_zero, List.set_cons_succ]
      refine wpAnyH_done (by kernel_rfl) ?_ _
      have bp := ((blk_made ((W0.drew.alloc (.cells (madeCells (Value.int .i64 0).cells (n + 1)) 3))) (n + 1) 3).alloc (.cells #[.slice none 0 0] 23))
      have br := (((blk_made (W0.drew) (n + 1) 3).alloc (.cells (madeCells (Value.int .i64 0).cells (n + 1)) 3)).alloc (.cells #[.slice none 0 0] 23))
      have bc := (Blk.new (((W0.drew.alloc (.cells (madeCells (Value.int .i64 0).cells (n + 1)) 3)).alloc (.cells (madeCells (Value.int .i64 0).cells (n + 1)) 3))) [.slice none 0 0] 23)
      simp only [World.size_alloc, World.size_drew, hs0] at bp br bc
      refine main (nc + 1 + 1) (nc + 1) (nc + 1 + 1 + 1) _ (by omega) (by omega) (by omega) (by omega) (by omega) (by omega) ?_ ?_ ?_ ?_ ?_
      · exact Blk.set_other ((((hB0.drew.alloc _).alloc _).alloc _)) (by omega) _
      · rw [← zeros_plc, nv_zeros]; exact Blk.set_other bp (by omega) _
      · rw [← zeros_rk1, hne.out]; exact Blk.set_other br (by omega) _
      · exact bc.set 0 _
      · exact Ext.setCell ((((hX0.drew.alloc _).alloc _).alloc _)) (by simp only []; omega) _
    · obtain rfl : i = 6 := by simpa using hi
      have hS56 : ((W0.drew.alloc (.cells (madeCells (Value.int .i64 0).cells (n + 1)) 3)).alloc (.cells #[.slice none 0 0] 23)).cell? ⟨nc, 0, none⟩ = some (.int .i64 (n : Int)) := Ext.cell ((Ext.refl _).alloc _) hS5
      refine wpOp_value 6 (.pointer (some ⟨nc + 1 + 1, 0, none⟩)) rfl rfl (by rfl) (w' := ((W0.drew.alloc (.cells (madeCells (Value.int .i64 0).cells (n + 1)) 3)).alloc (.cells #[.slice none 0 0] 23))) (by go_simp) ⟨hS56, ?_⟩
      try simp only [List.setIfInBounds_toArray, List.set_cons_zero, List.set_cons_succ]
      refine wpAnyH_all (rs := [2]) (by kernel_rfl) (by simp) ?_
      intro i hi
      obtain rfl : i = 2 := by simpa using hi
      have hS562 : (((W0.drew.alloc (.cells (madeCells (Value.int .i64 0).cells (n + 1)) 3)).alloc (.cells #[.slice none 0 0] 23)).alloc (.cells (madeCells (Value.int .i64 0).cells (n + 1)) 3)).cell? ⟨nc, 0, none⟩ = some (.int .i64 (n : Int)) := Ext.cell ((Ext.refl _).alloc _) hS56
      refine wpOp_value 2 (.slice (some ⟨nc + 1 + 1 + 1, 0, none⟩) (n + 1) (n + 1)) rfl rfl (by rfl) (w' := (((W0.drew.alloc (.cells (madeCells (Value.int .i64 0).cells (n + 1)) 3)).alloc (.cells #[.slice none 0 0] 23)).alloc (.cells (madeCells (Value.int .i64 0).cells (n + 1)) 3))) (by go_simp) ⟨hS562, ?_⟩
      try simp only [List.setIfInBounds_toArray, List.set_cons_zero, List.set_cons_succ]
      refine takeH 7 (.slice (some ⟨nc + 1 + 1 + 1, 0, none⟩) (n + 1) (n + 1)) rfl rfl (by kernel_rfl) (by kernel_rfl) (by kernel_rfl) (fun _ _ _ h => h) (by rfl) (fun w' hw' => by go_simp) hS562 ?_
      try simp only [List.setIfInBounds_toArray, List.set_cons_zero, List.set_cons_succ]
      refine storeH 8 rfl rfl (by kernel_rfl) (by rfl) (w' := (((W0.drew.alloc (.cells (madeCells (Value.int .i64 0).cells (n + 1)) 3)).alloc (.cells #[.slice none 0 0] 23)).alloc (.cells (madeCells (Value.int .i64 0).cells (n + 1)) 3)).setCell ⟨nc + 1 + 1, 0, none⟩ (.slice (some ⟨nc + 1, 0, none⟩) (n + 1) (n + 1))) (by go_simp) ?_ ?_
      · exact set_other (by simp <;> omega) hS562
      try simp only [List.setIfInBounds_toArray, List.set_cons_zero, List.set_cons_succ]
      refine wpAnyH_done (by kernel_rfl) ?_ _
      have bp := (blk_made (((W0.drew.alloc (.cells (madeCells (Value.int .i64 0).cells (n + 1)) 3)).alloc (.cells #[.slice none 0 0] 23))) (n + 1) 3)
      have br := (((blk_made (W0.drew) (n + 1) 3).alloc (.cells #[.slice none 0 0] 23)).alloc (.cells (madeCells (Value.int .i64 0).cells (n + 1)) 3))
      have bc := ((Blk.new ((W0.drew.alloc (.cells (madeCells (Value.int .i64 0).cells (n + 1)) 3))) [.slice none 0 0] 23).alloc (.cells (madeCells (Value.int .i64 0).cells (n + 1)) 3))
      simp only [World.size_alloc, World.size_drew, hs0] at bp br bc
      refine main (nc + 1 + 1 + 1) (nc + 1) (nc + 1 + 1) _ (by omega) (by omega) (by omega) (by omega) (by omega) (by omega) ?_ ?_ ?_ ?_ ?_
      · exact Blk.set_other ((((hB0.drew.alloc _).alloc _).alloc _)) (by omega) _
      · rw [← zeros_plc, nv_zeros]; exact Blk.set_other bp (by omega) _
      · rw [← zeros_rk1, hne.out]; exact Blk.set_other br (by omega) _
      · exact bc.set 0 _
      · exact Ext.setCell ((((hX0.drew.alloc _).alloc _).alloc _)) (by simp only []; omega) _
  · obtain rfl : i = 6 := by simpa using hi
    have hS6 : (W0.drew.alloc (.cells #[.slice none 0 0] 23)).cell? ⟨nc, 0, none⟩ = some (.int .i64 (n : Int)) := Ext.cell ((Ext.refl _).alloc _) hS
    refine wpOp_value 6 (.pointer (some ⟨nc + 1, 0, none⟩)) rfl rfl (by rfl) (w' := (W0.drew.alloc (.cells #[.slice none 0 0] 23))) (by go_simp) ⟨hS6, ?_⟩
    try simp only [List.setIfInBounds_toArray, List.set_cons_zero, List.set_cons_succ]
    refine wpAnyH_all (rs := [2, 5]) (by kernel_rfl) (by simp) ?_
    intro i hi
    rcases List.mem_cons.1 hi with rfl | hi
    · have hS62 : ((W0.drew.alloc (.cells #[.slice none 0 0] 23)).alloc (.cells (madeCells (Value.int .i64 0).cells (n + 1)) 3)).cell? ⟨nc, 0, none⟩ = some (.int .i64 (n : Int)) := Ext.cell ((Ext.refl _).alloc _) hS6
      refine wpOp_value 2 (.slice (some ⟨nc + 1 + 1, 0, none⟩) (n + 1) (n + 1)) rfl rfl (by rfl) (w' := ((W0.drew.alloc (.cells #[.slice none 0 0] 23)).alloc (.cells (madeCells (Value.int .i64 0).cells (n + 1)) 3))) (by go_simp) ⟨hS62, ?_⟩
      try simp only [List.setIfInBounds_toArray, List.set_cons_zero, List.set_cons_succ]
      refine takeH 7 (.slice (some ⟨nc + 1 + 1, 0, none⟩) (n + 1) (n + 1)) rfl rfl (by kernel_rfl) (by kernel_rfl) (by kernel_rfl) (fun _ _ _ h => h) (by rfl) (fun w' hw' => by go_simp) hS62 ?_
      try simp only [List.setIfInBounds_toArray, List.set_cons_zero, List.set_cons_succ]
      refine wpAnyH_all (rs := [5]) (by kernel_rfl) (by simp) ?_
      intro i hi
      obtain rfl : i = 5 := by simpa using hi
      have hS625 : (((W0.drew.alloc (.cells #[.slice none 0 0] 23)).alloc (.cells (madeCells (Value.int .i64 0).cells (n + 1)) 3)).alloc (.cells (madeCells (Value.int .i64 0).cells (n + 1)) 3)).cell? ⟨nc, 0, none⟩ = some (.int .i64 (n : Int)) := Ext.cell ((Ext.refl _).alloc _) hS62
      refine wpOp_value 5 (.slice (some ⟨nc + 1 + 1 + 1, 0, none⟩) (n + 1) (n + 1)) rfl rfl (by rfl) (w' := (((W0.drew.alloc (.cells #[.slice none 0 0] 23)).alloc (.cells (madeCells (Value.int .i64 0).cells (n + 1)) 3)).alloc (.cells (madeCells (Value.int .i64 0).cells (n + 1)) 3))) (by go_simp) ⟨hS625, ?_⟩
      try simp only [List.setIfInBounds_toArray, List.set_cons_zero, List.set_cons_succ]
      refine storeH 8 rfl rfl (by kernel_rfl) (by rfl) (w' := (((W0.drew.alloc (.cells #[.slice none 0 0] 23)).alloc (.cells (madeCells (Value.int .i64 0).cells (n + 1)) 3)).alloc (.cells (madeCells (Value.int .i64 0).cells (n + 1)) 3)).setCell ⟨nc + 1, 0, none⟩ (.slice (some ⟨nc + 1 + 1 + 1, 0, none⟩) (n + 1) (n + 1))) (by go_simp) ?_ ?_
      · exact set_other (by simp <;> omega) hS625
      try simp only [List.setIfInBounds_toArray, List.set_cons_zero, List.set_cons_succ]
      refine wpAnyH_done (by kernel_rfl) ?_ _
      have bp := ((blk_made ((W0.drew.alloc (.cells #[.slice none 0 0] 23))) (n + 1) 3).alloc (.cells (madeCells (Value.int .i64 0).cells (n + 1)) 3))
      have br := (blk_made (((W0.drew.alloc (.cells #[.slice none 0 0] 23)).alloc (.cells (madeCells (Value.int .i64 0).cells (n + 1)) 3))) (n + 1) 3)
      have bc := (((Blk.new (W0.drew) [.slice none 0 0] 23).alloc (.cells (madeCells (Value.int .i64 0).cells (n + 1)) 3)).alloc (.cells (madeCells (Value.int .i64 0).cells (n + 1)) 3))
      simp only [World.size_alloc, World.size_drew, hs0] at bp br bc
      refine main (nc + 1 + 1) (nc + 1 + 1 + 1) (nc + 1) _ (by omega) (by omega) (by omega) (by omega) (by omega) (by omega) ?_ ?_ ?_ ?_ ?_
      · exact Blk.set_other ((((hB0.drew.alloc _).alloc _).alloc _)) (by omega) _
      · rw [← zeros_plc, nv_zeros]; exact Blk.set_other bp (by omega) _
      · rw [← zeros_rk1, hne.out]; exact Blk.set_other br (by omega) _
      · exact bc.set 0 _
      · exact Ext.setCell ((((hX0.drew.alloc _).alloc _).alloc _)) (by simp only []; omega) _
    · obtain rfl : i = 5 := by simpa using hi
      have hS65 : ((W0.drew.alloc (.cells #[.slice none 0 0] 23)).alloc (.cells (madeCells (Value.int .i64 0).cells (n + 1)) 3)).cell? ⟨nc, 0, none⟩ = some (.int .i64 (n : Int)) := Ext.cell ((Ext.refl _).alloc _) hS6
      refine wpOp_value 5 (.slice (some ⟨nc + 1 + 1, 0, none⟩) (n + 1) (n + 1)) rfl rfl (by rfl) (w' := ((W0.drew.alloc (.cells #[.slice none 0 0] 23)).alloc (.cells (madeCells (Value.int .i64 0).cells (n + 1)) 3))) (by go_simp) ⟨hS65, ?_⟩
      try simp only [List.setIfInBounds_toArray, List.set_cons_zero, List.set_cons_succ]
      refine wpAnyH_all (rs := [2]) (by kernel_rfl) (by simp) ?_
      intro i hi
      obtain rfl : i = 2 := by simpa using hi
      have hS652 : (((W0.drew.alloc (.cells #[.slice none 0 0] 23)).alloc (.cells (madeCells (Value.int .i64 0).cells (n + 1)) 3)).alloc (.cells (madeCells (Value.int .i64 0).cells (n + 1)) 3)).cell? ⟨nc, 0, none⟩ = some (.int .i64 (n : Int)) := Ext.cell ((Ext.refl _).alloc _) hS65
      refine wpOp_value 2 (.slice (some ⟨nc + 1 + 1 + 1, 0, none⟩) (n + 1) (n + 1)) rfl rfl (by rfl) (w' := (((W0.drew.alloc (.cells #[.slice none 0 0] 23)).alloc (.cells (madeCells (Value.int .i64 0).cells (n + 1)) 3)).alloc (.cells (madeCells (Value.int .i64 0).cells (n + 1)) 3))) (by go_simp) ⟨hS652, ?_⟩
      try simp only [List.setIfInBounds_toArray, List.set_cons_zero, List.set_cons_succ]
      refine takeH 7 (.slice (some ⟨nc + 1 + 1 + 1, 0, none⟩) (n + 1) (n + 1)) rfl rfl (by kernel_rfl) (by kernel_rfl) (by kernel_rfl) (fun _ _ _ h => h) (by rfl) (fun w' hw' => by go_simp) hS652 ?_
      try simp only [List.setIfInBounds_toArray, List.set_cons_zero, List.set_cons_succ]
      refine storeH 8 rfl rfl (by kernel_rfl) (by rfl) (w' := (((W0.drew.alloc (.cells #[.slice none 0 0] 23)).alloc (.cells (madeCells (Value.int .i64 0).cells (n + 1)) 3)).alloc (.cells (madeCells (Value.int .i64 0).cells (n + 1)) 3)).setCell ⟨nc + 1, 0, none⟩ (.slice (some ⟨nc + 1 + 1, 0, none⟩) (n + 1) (n + 1))) (by go_simp) ?_ ?_
      · exact set_other (by simp <;> omega) hS652
      try simp only [List.setIfInBounds_toArray, List.set_cons_zero, List.set_cons_succ]
      refine wpAnyH_done (by kernel_rfl) ?_ _
      have bp := (blk_made (((W0.drew.alloc (.cells #[.slice none 0 0] 23)).alloc (.cells (madeCells (Value.int .i64 0).cells (n + 1)) 3))) (n + 1) 3)
      have br := ((blk_made ((W0.drew.alloc (.cells #[.slice none 0 0] 23))) (n + 1) 3).alloc (.cells (madeCells (Value.int .i64 0).cells (n + 1)) 3))
      have bc := (((Blk.new (W0.drew) [.slice none 0 0] 23).alloc (.cells (madeCells (Value.int .i64 0).cells (n + 1)) 3)).alloc (.cells (madeCells (Value.int .i64 0).cells (n + 1)) 3))
      simp only [World.size_alloc, World.size_drew, hs0] at bp br bc
      refine main (nc + 1 + 1 + 1) (nc + 1 + 1) (nc + 1) _ (by omega) (by omega) (by omega) (by omega) (by omega) (by omega) ?_ ?_ ?_ ?_ ?_
      · exact Blk.set_other ((((hB0.drew.alloc _).alloc _).alloc _)) (by omega) _
      · rw [← zeros_plc, nv_zeros]; exact Blk.set_other bp (by omega) _
      · rw [← zeros_rk1, hne.out]; exact Blk.set_other br (by omega) _
      · exact bc.set 0 _
      · exact Ext.setCell ((((hX0.drew.alloc _).alloc _).alloc _)) (by simp only []; omega) _
end Go.Proofs.Ytfebgcbkadmgiaa
