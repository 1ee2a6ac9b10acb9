/- TopVolumesRecovered: the walk. -/
import Derived.Test.YtpfelklhejpnnaaHcc
import Derived.Test.YtpfelklhejpnnaaHcd
import Derived.BigQuiet
namespace Go.Proofs.Ytpfelklhejpnnaa
open Go.RowKit
set_option linter.unusedVariables false
set_option linter.unusedSimpArgs false
attribute [local go_sem ↓] Go.wp_at_zero Go.wp_at_succ

set_option maxRecDepth 100000 in
set_option maxHeartbeats 4000000 in
theorem toprec_any (v0 v2 : Value) (b : List Int) (hb : Bytes b) (x0 x1 : Nat) (hx0 : x0 < 256) (hx1 : x1 < 256) (m : Nat) (cs : List Value) (hcs : U8s cs) (w : World) (h0 : Rd8 w v0 b) (h2 : Rd w 4 v2 m cs) :
    Calls Try.prog 3 #[v0, .agg #[.int .u8 (x0 : Int), .int .u8 (x1 : Int)], v2] w fun e w' => e = .returned (.bool true) ∧ Ext w w' := by
  obtain ⟨a0, c0, rfl⟩ := rd8_one h0
  obtain ⟨a2, c2, rfl, hm2, hm3, -⟩ := Rd.shape h2
  have hcr := fun W => crec_any W
  obtain ⟨n, hn⟩ : ∃ n, b.length = n := ⟨_, rfl⟩
  have hnmax : n ≤ 9223372036854775807 := by
    obtain ⟨a, c, e, q1, q2, -⟩ := Rd.shape h0
    omega
  rw [hn] at h0 ⊢
  replace hcr := hidden hcr
  replace h0 := hidden h0
  replace h2 := hidden h2
  have hXw : Ext w (w.alloc (.cells #[.int .u8 (x0 : Int), .int .u8 (x1 : Int)] 23)) := (Ext.refl w).alloc _
  by_cases hlong : 60 < n
  · have u1 : (60 : Int) < (n : Int) := by omega
    replace hXw := hidden hXw
    go_enter Try.func3, Try.ntmps3
    go_wp2_with fail
    refine (hcr.out _).mono ?_
    rintro e w1 ⟨rfl, hX1⟩
    go_wp2_with fail
    go_ret
    exact ⟨rfl, hXw.out.trans hX1⟩
  have u1 : ¬ (60 : Int) < (n : Int) := by omega
  by_cases hmany : 12 < m
  · have u2 : (12 : Int) < (m : Int) := by omega
    replace hXw := hidden hXw
    go_enter Try.func3, Try.ntmps3
    go_wp2_with fail
    refine (hcr.out _).mono ?_
    rintro e w1 ⟨rfl, hX1⟩
    go_wp2_with fail
    go_ret
    exact ⟨rfl, hXw.out.trans hX1⟩
  have u2 : ¬ (12 : Int) < (m : Int) := by omega
  obtain ⟨d0, hd0⟩ : ∃ y, x0 % 6 = y := ⟨_, rfl⟩
  obtain ⟨r, hr0⟩ : ∃ y, x1 % 5 = y := ⟨_, rfl⟩
  obtain ⟨d, hd1⟩ : ∃ y, 1 + d0 = y := ⟨_, rfl⟩
  have hdp : 1 ≤ d := by omega
  have hd6 : d ≤ 6 := by omega
  have hr4 : r ≤ 4 := by omega
  have r1 : (x0 : Int).tmod 6 = (d0 : Int) := by rw [Int.tmod_eq_emod_of_nonneg (by omega)]; omega
  have r2 : (x1 : Int).tmod 5 = (r : Int) := by rw [Int.tmod_eq_emod_of_nonneg (by omega)]; omega
  have r3 : IntKind.i64.wrap (x0 : Int) = (x0 : Int) := IntWalk.i64_in _ (by omega)
  have r4 : IntKind.i64.wrap (x1 : Int) = (x1 : Int) := IntWalk.i64_in _ (by omega)
  have r5 : IntKind.i64.wrap (d0 : Int) = (d0 : Int) := IntWalk.i64_in _ (by omega)
  have r6 : IntKind.i64.wrap (r : Int) = (r : Int) := IntWalk.i64_in _ (by omega)
  have r7 : IntKind.i64.wrap (1 + (d0 : Int)) = (d : Int) := by rw [IntWalk.i64_in _ (by omega)]; omega
  obtain ⟨q, hq⟩ : ∃ q, w.heap.size = q := ⟨_, rfl⟩
  have bq : Blk (w.alloc (.cells #[.int .u8 (x0 : Int), .int .u8 (x1 : Int)] 23)) q 23 [.int .u8 (x0 : Int), .int .u8 (x1 : Int)] := blk_newAt' w _ _ q hq
  have hsp := fun W (h : Rd8 W (.slice a0 n c0) b) => split_any d r hdp (by omega) (.slice a0 n c0) b hb (by omega) W h
  have hsl := splitF_len b d r
  have hsB := split_bytes hb (show b.length ≤ 1000 by omega) (show d + r ≤ 64 by omega)
  have hsL := split_lens (b := b) (d := d) (r := r) hdp (by omega)
  have hlo := fun v1 W (h1 : RL W v1 (splitF b d r)) (h2 : Rd W 4 (.slice a2 m c2) m cs) => close_any v1 (.slice a2 m c2) (splitF b d r) (d + r) m 1100 hsl (by omega) (by omega) hsB hsL (by omega) cs hcs W h1 h2
  have hfo := fun v1 v2 X (hXb : ∀ l ∈ X, Bytes l) (hXl : ∀ l ∈ X, l.length ≤ 900000) (hXn : X.length ≤ 1000) W h1 h2 => cforged_any v1 v2 (splitF b d r) X hsB hXb hXl (by omega) hXn W h1 h2
  have hall := fun (X : List (List Int)) (hf : X.any (frg (splitF b d r)) = false) => inv_col (b := b) (d := d) (r := r) hdp (by omega) (by omega) X (fun x hx => by
    have := List.any_eq_false.1 hf x hx
    unfold frg at this
    by_cases h : (hdF x).1 = 0
    · refine Or.inr ?_
      by_cases hm : x ∈ splitF b d r
      · exact hm
      · exact absurd (decide_eq_true ⟨h, hm⟩) this
    · exact Or.inl h)
  have hvj := fun X (hL : LeftOK b d r X) v W h => vjoin_any b d r hdp (by omega) hb (by omega) v X hL W h
  have hvr := fun X (hL : LeftOK b d r X) v W h => vrepair_any b d r hdp (by omega) hb (by omega) v X hL W h
  have hvm := fun X (hL : LeftOK b d r X) v W h => vmissing_any b d r hdp (by omega) hb (by omega) v X hL W h
  have hlok := fun X (h : Inv b d r X (colF X)) hf hB hl => leftOK_of hdp hd6 hr4 hb h hf hB hl
  have hvj2 := fun X (h : Inv b d r X (colF X)) w w' e (hv : VJ w b d r X e w') => vj_of hdp h hv
  have hvr2 := fun X (h : Inv b d r X (colF X)) w w' e (hv : VR w b d r X e w') => vr_of hdp h hv
  have hvm2 := fun X (h : Inv b d r X (colF X)) w w' e (hv : VM w b d r X e w') => vm_of hdp h hv
  have heq : ∀ va vb (x : List Int) (hx : Bytes x) (W : World), Rd8 W va x → Rd8 W vb x → Calls Try.prog 11 #[va, vb] W fun e w' => e = .returned (.bool true) ∧ Ext W w' := fun va vb x hx W r1 r2 => (bequal_any va vb x x hx hx W r1 r2).mono (fun e w' h => ⟨by rw [h.1, decide_eq_true rfl], h.2⟩)
  obtain ⟨L, hL⟩ : ∃ y, splitF b d r = y := ⟨_, rfl⟩
  simp only [hL] at hsp hsl hsB hlo hfo hall hvj2 hvr2 hvm2
  obtain ⟨N, hN⟩ : ∃ y, d + r = y := ⟨_, rfl⟩
  have r8 : IntKind.i64.wrap ((d : Int) + (r : Int)) = (N : Int) := by rw [IntWalk.i64_in _ (by omega)]; omega
  simp only [hN] at hsl hlo hvj2 hvr2 hvm2
  have hN10 : N ≤ 10 := by omega
  have hrN : r < N := by omega
  replace hsp := hidden hsp
  replace hsB := hidden hsB
  replace hlo := hidden hlo
  replace hfo := hidden hfo
  replace hall := hidden hall
  replace hvj := hidden hvj
  replace hvr := hidden hvr
  replace hvm := hidden hvm
  replace hvj2 := hidden hvj2
  replace hvr2 := hidden hvr2
  replace hvm2 := hidden hvm2
  replace hlok := hidden hlok
  replace heq := hidden heq
  replace hL := hidden hL
  replace hb := hidden hb
  replace hN := hidden hN
  replace hd1 := hidden hd1
  replace hd0 := hidden hd0
  replace hr0 := hidden hr0
  replace hn := hidden hn
  replace hXw := hidden hXw
  clear hsL
  go_enter Try.func3, Try.ntmps3
  go_upto_region 3 with fail
  obtain ⟨w1, hw1⟩ : ∃ X, w.alloc (.cells #[.int .u8 (x0 : Int), .int .u8 (x1 : Int)] 23) = X := ⟨_, rfl⟩
  rw [hw1] at bq hXw ⊢
  clear hw1
  have cq0 := bq.cell 0 _ rfl
  have cq1 := bq.cell 1 _ rfl
  go_quiet (fail)
  have hXq : Ext w (w1.drewN nq) := hXw.out.drewN nq
  obtain ⟨w2, hw2⟩ : ∃ X, w1.drewN nq = X := ⟨_, rfl⟩
  rw [hw2] at hXq ⊢
  clear hw2 cq0 cq1 bq
  have hs2 := hsp.out w2 (h0.out.ext hXq)
  replace hs2 := hidden hs2
  replace hXq := hidden hXq
  clear r1 r2 r3 r4 r5 r6 r7 hsp hXw
  go_wp2_with fail
  refine hs2.out.mono ?_
  rintro e w3 ⟨v9, rfl, hO9, hX23⟩
  have hR9 := hO9.rl
  obtain ⟨a9, c9, hve, -, -⟩ := hR9.shape
  rw [hsl] at hve
  subst hve
  have hX3 : Ext w w3 := hXq.out.trans hX23
  have hlo3 := hlo.out _ w3 hR9 (Rd.ext h2.out hX3)
  have hNe : ((N : Int) != (N : Int)) = false := by simp
  replace hlo3 := hidden hlo3
  replace hR9 := hidden hR9
  replace hX3 := hidden hX3
  clear hs2 hO9 hX23 hlo hXq h2
  go_wp2_with fail
  refine hlo3.out.mono ?_
  rintro e w4 ⟨v11, X, rfl, hRX, hXB, hXn, hX34⟩
  have hR94 := hR9.out.ext hX34
  have hX4 : Ext w w4 := hX3.out.trans hX34
  obtain ⟨a11, c11, rfl, -, -⟩ := hRX.shape
  have hfo4 := hfo.out _ _ X (fun l hl => (hXB l hl).1) (fun l hl => by have := (hXB l hl).2; omega) (by omega) w4 hR94 hRX
  obtain ⟨lost, hlost⟩ : ∃ y, notP L X = y := ⟨_, rfl⟩
  obtain ⟨nx, hnx⟩ : ∃ y, X.length = y := ⟨_, rfl⟩
  rw [hnx] at hRX hXn hfo4 ⊢
  rw [hlost]
  replace hlost := hidden hlost
  replace hfo4 := hidden hfo4
  replace hR94 := hidden hR94
  replace hRX := hidden hRX
  replace hX4 := hidden hX4
  replace hXB := hidden hXB
  replace hnx := hidden hnx
  clear hlo3 hX34 hfo hR9 hX3
  cases hfg : X.any (frg L) with
  | true =>
    rw [hfg] at hfo4
    clear hfg
    go_wp2_with fail
    refine hfo4.out.mono ?_
    rintro e w5 ⟨rfl, hX5⟩
    have hX6 : Hid (Ext w w5) := hidden (hX4.out.trans hX5)
    go_wp2_with fail
    refine (hcr.out _).mono ?_
    rintro e w6 ⟨rfl, hX7⟩
    go_wp2_with fail
    go_ret
    exact ⟨rfl, hX6.out.trans hX7⟩
  | false =>
    have hInv := hall.out X hfg
    rw [hfg] at hfo4
    have hLO := hlok.out X hInv (by have := hnx.out; omega) (fun l hl => (hXB.out l hl).1) (fun l hl => by have := (hXB.out l hl).2; omega)
    have hj := fun v W h => (hvj.out X hLO v W h).mono (fun e w' h => hvj2.out X hInv W w' e h)
    have hr := fun v W h => (hvr.out X hLO v W h).mono (fun e w' h => hvr2.out X hInv W w' e h)
    have hm := fun v W h => (hvm.out X hLO v W h).mono (fun e w' h => hvm2.out X hInv W w' e h)
    simp only [hlost.out] at hj hr hm
    replace hj := hidden hj
    replace hr := hidden hr
    replace hm := hidden hm
    clear hfg hvj hvr hvm hvj2 hvr2 hvm2 hall hlok hInv hLO
    go_wp2_with fail
    refine hfo4.out.mono ?_
    rintro e w5 ⟨rfl, hX5⟩
    have hRX5 : Hid (RL w5 (.slice a11 nx c11) X) := hidden (hRX.out.ext hX5)
    have hR95 : Hid (RL w5 (.slice a9 N c9) L) := hidden (hR94.out.ext hX5)
    have hX5' : Hid (Ext w w5) := hidden (hX4.out.trans hX5)
    clear hX5 hfo4 hRX hR94 hX4
    by_cases hA : lost = N
    · have q1 : ((lost : Int) == (N : Int)) = true := by rw [hA]; simp
      replace hA := hidden hA
      go_wp2_with fail
      refine (hj.out _ w5 hRX5.out).mono ?_
      rintro e w6 (⟨-, rfl, hX6⟩ | ⟨-, hc, -, -⟩ | ⟨hc, -⟩)
      · go_wp2_with fail
        refine (hr.out _ w6 (hRX5.out.ext hX6)).mono ?_
        rintro e w7 (⟨-, rfl, hX7⟩ | ⟨-, hc, -, -⟩ | ⟨hc, -⟩)
        · go_wp2_with fail
          refine (hm.out _ w7 (hRX5.out.ext (hX6.trans hX7))).mono ?_
          rintro e w8 (⟨-, rfl, hX8⟩ | ⟨hc, -⟩)
          · have hX9 : Hid (Ext w w8) := hidden (((hX5'.out.trans hX6).trans hX7).trans hX8)
            clear hX6 hX7 hX8 hX5'
            go_wp2_with fail
            refine (hcr.out _).mono ?_
            rintro e w9 ⟨rfl, hX10⟩
            go_wp2_with fail
            go_ret
            exact ⟨rfl, hX9.out.trans hX10⟩
          · exact absurd hA.out hc
        · exact absurd hA.out hc
        · exact absurd hA.out (by omega)
      · exact absurd hA.out hc
      · exact absurd hA.out (by omega)
    · have q1 : ((lost : Int) == (N : Int)) = false := by
        simp only [beq_eq_false_iff_ne, ne_eq]
        exact fun h => hA (by omega)
      by_cases hBc : r < lost
      · have q2 : (r : Int) < (lost : Int) := by omega
        have q3 : ((lost : Int) != (lost : Int)) = false := by simp
        replace hA := hidden hA
        go_wp2_with fail
        refine (hj.out _ w5 hRX5.out).mono ?_
        rintro e w6 (⟨hc, -, -⟩ | ⟨-, -, rfl, hX6⟩ | ⟨hc, -⟩)
        · exact absurd hc hA.out
        · go_wp2_with fail
          refine (hr.out _ w6 (hRX5.out.ext hX6)).mono ?_
          rintro e w7 (⟨hc, -, -⟩ | ⟨-, -, rfl, hX7⟩ | ⟨hc, -⟩)
          · exact absurd hc hA.out
          · go_wp2_with fail
            refine (hm.out _ w7 (hRX5.out.ext (hX6.trans hX7))).mono ?_
            rintro e w8 (⟨hc, -, -⟩ | ⟨-, vm, rfl, hRm, hX8⟩)
            · exact absurd hc hA.out
            · obtain ⟨ma, mc, rfl, -⟩ := Rd.shape hRm
              have hX9 : Hid (Ext w w8) := hidden (((hX5'.out.trans hX6).trans hX7).trans hX8)
              clear hX6 hX7 hX8 hX5' hRm
              go_wp2_with fail
              refine (hcr.out _).mono ?_
              rintro e w9 ⟨rfl, hX10⟩
              go_wp2_with fail
              go_ret
              exact ⟨rfl, hX9.out.trans hX10⟩
          · omega
        · omega
      · have q2 : ¬ (r : Int) < (lost : Int) := by omega
        have q3 : ((lost : Int) != (lost : Int)) = false := by simp
        replace hA := hidden hA
        go_wp2_with fail
        refine (hj.out _ w5 hRX5.out).mono ?_
        rintro e w6 (⟨hc, -, -⟩ | ⟨hc, -, -, -⟩ | ⟨-, v6, rfl, hR6, hX6⟩)
        · exact absurd hc hA.out
        · omega
        · go_wp2_with fail
          refine (hr.out _ w6 (hRX5.out.ext hX6)).mono ?_
          rintro e w7 (⟨hc, -, -⟩ | ⟨hc, -, -, -⟩ | ⟨-, v7, rfl, hR7, hX7⟩)
          · exact absurd hc hA.out
          · omega
          · go_wp2_with fail
            refine (hm.out _ w7 (hRX5.out.ext (hX6.trans hX7))).mono ?_
            rintro e w8 (⟨hc, -, -⟩ | ⟨-, vm, rfl, hRm, hX8⟩)
            · exact absurd hc hA.out
            · obtain ⟨ma, mc, rfl, -⟩ := Rd.shape hRm
              obtain ⟨a7, c7, hve, -, -⟩ := hR7.shape
              rw [hsl] at hve
              subst hve
              have hX58 : Ext w5 w8 := (hX6.trans hX7).trans hX8
              have hX9 : Hid (Ext w w8) := hidden (hX5'.out.trans hX58)
              have he := heq.out v6 _ b hb.out w8 (hR6.ext (hX7.trans hX8)) (h0.out.ext hX9.out)
              have hR78 : Hid (RL w8 (.slice a7 N c7) L) := hidden (hR7.ext hX8)
              have hR98 : Hid (RL w8 (.slice a9 N c9) L) := hidden (hR95.out.ext hX58)
              replace he := hidden he
              clear hX6 hX7 hX8 hX5' hRm hR6 hR7 hX58 hR95 hRX5
              go_wp2_with fail
              refine he.out.mono ?_
              rintro e w10 ⟨rfl, hX10⟩
              have hX11 : Hid (Ext w w10) := hidden (hX9.out.trans hX10)
              have hR710 : Hid (RL w10 (.slice a7 N c7) L) := hidden (hR78.out.ext hX10)
              have hR910 : Hid (RL w10 (.slice a9 N c9) L) := hidden (hR98.out.ext hX10)
              clear hX10 hX9 hR78 hR98 he hj hr hm
              go_upto_region 22 with fail
              go_loopw [143] (fun i wr => ∃ k : Nat, i = .int .i64 (k : Int) ∧ k ≤ N ∧ Hid (Ext w10 wr)) (fun i _ => N - (intOf i).toNat)
              case atStart => exact ⟨0, rfl, by omega, hidden (Ext.refl w10)⟩
              case round =>
                obtain ⟨k, rfl, hk, hX⟩ := hrel
                have v1 : IntKind.i64.wrap ((k : Int) + 1) = (k : Int) + 1 := IntWalk.i64_in _ (by omega)
                obtain ⟨w12, hWW⟩ : ∃ X, X = wr := ⟨_, rfl⟩
                subst hWW
                by_cases hlt : k < N
                · have hlt2 : (k : Int) < (N : Int) := by omega
                  obtain ⟨b7, o7, ra, rc, rfl, cA, hrA⟩ := (hR710.out.ext hX.out).row k hlt
                  obtain ⟨b9, o9, rb, rd, rfl, cB, hrB⟩ := (hR910.out.ext hX.out).row k hlt
                  have hyb := hsB.out _ (getD_memL (show k < L.length by omega))
                  obtain ⟨y, hy⟩ : ∃ z, L.getD k [] = z := ⟨_, rfl⟩
                  rw [hy] at cA cB hrA hrB hyb
                  have he := heq.out _ _ y hyb w12.drew (hrA.ext (Ext.refl w12).drew) (hrB.ext (Ext.refl w12).drew)
                  obtain ⟨ly, hly⟩ : ∃ z, y.length = z := ⟨_, rfl⟩
                  rw [hly] at cA cB he
                  replace he := hidden he
                  clear hrA hrB hyb hy hly
                  go_upto_region 24 with fail
                  refine wp_region_D (S := fun w' : World => w'.cell? ⟨b7, o7 + k, none⟩ = some (.slice ra ly rc) ∧ w'.cell? ⟨b9, o9 + k, none⟩ = some (.slice rb ly rd)) (D := []) (by kernel_rfl) ⟨cA, cB⟩ (fun HS => ?_)
                  refine takeD 0 [] (.slice (some ⟨b7, o7, none⟩) N c7) rfl rfl (by kernel_rfl) (by kernel_rfl) (by kernel_rfl) (by kernel_rfl) (by decide) (by decide) (fun _ _ _ h => h) (by rfl) (fun w' hw' => by go_simp) HS ?_
                  try simp only [List.setIfInBounds_toArray, List.set_cons_zero, List.set_cons_succ]
                  refine takeD 1 [] (.int .i64 (k : Int)) rfl rfl (by kernel_rfl) (by kernel_rfl) (by kernel_rfl) (by kernel_rfl) (by decide) (by decide) (fun _ _ _ h => h) (by rfl) (fun w' hw' => by go_simp) HS ?_
                  try simp only [List.setIfInBounds_toArray, List.set_cons_zero, List.set_cons_succ]
                  refine takeD 2 [] (.pointer (some ⟨b7, o7 + k, none⟩)) rfl rfl (by kernel_rfl) (by kernel_rfl) (by kernel_rfl) (by kernel_rfl) (by decide) (by decide) (fun _ _ _ h => h) (by rfl) (fun w' hw' => by go_simp) HS ?_
                  try simp only [List.setIfInBounds_toArray, List.set_cons_zero, List.set_cons_succ]
                  refine takeD 3 [] (.slice ra ly rc) rfl rfl (by kernel_rfl) (by kernel_rfl) (by kernel_rfl) (by kernel_rfl) (by decide) (by decide) (fun _ _ _ h => h) (by rfl) (fun w' hw' => by obtain ⟨p1, p2⟩ := hw'; go_simp) HS ?_
                  try simp only [List.setIfInBounds_toArray, List.set_cons_zero, List.set_cons_succ]
                  refine takeD 4 [] (.slice (some ⟨b9, o9, none⟩) N c9) rfl rfl (by kernel_rfl) (by kernel_rfl) (by kernel_rfl) (by kernel_rfl) (by decide) (by decide) (fun _ _ _ h => h) (by rfl) (fun w' hw' => by go_simp) HS ?_
                  try simp only [List.setIfInBounds_toArray, List.set_cons_zero, List.set_cons_succ]
                  refine takeD 5 [] (.int .i64 (k : Int)) rfl rfl (by kernel_rfl) (by kernel_rfl) (by kernel_rfl) (by kernel_rfl) (by decide) (by decide) (fun _ _ _ h => h) (by rfl) (fun w' hw' => by go_simp) HS ?_
                  try simp only [List.setIfInBounds_toArray, List.set_cons_zero, List.set_cons_succ]
                  refine takeD 6 [] (.pointer (some ⟨b9, o9 + k, none⟩)) rfl rfl (by kernel_rfl) (by kernel_rfl) (by kernel_rfl) (by kernel_rfl) (by decide) (by decide) (fun _ _ _ h => h) (by rfl) (fun w' hw' => by go_simp) HS ?_
                  try simp only [List.setIfInBounds_toArray, List.set_cons_zero, List.set_cons_succ]
                  refine takeD 7 [] (.slice rb ly rd) rfl rfl (by kernel_rfl) (by kernel_rfl) (by kernel_rfl) (by kernel_rfl) (by decide) (by decide) (fun _ _ _ h => h) (by rfl) (fun w' hw' => by obtain ⟨p1, p2⟩ := hw'; go_simp) HS ?_
                  try simp only [List.setIfInBounds_toArray, List.set_cons_zero, List.set_cons_succ]
                  refine callVD 8 11 #[.slice ra ly rc, .slice rb ly rd] rfl rfl (by kernel_rfl) (by rfl) (by go_simp) he.out ?_
                  rintro e w13 ⟨rfl, hXe⟩
                  have HS2 : (fun w' : World => w'.cell? ⟨b7, o7 + k, none⟩ = some (.slice ra ly rc) ∧ w'.cell? ⟨b9, o9 + k, none⟩ = some (.slice rb ly rd)) w13 := ⟨hXe.past_drew.cell cA, hXe.past_drew.cell cB⟩
                  refine Or.inl ⟨_, rfl, fun _ => HS2, ?_⟩
                  try simp only [List.setIfInBounds_toArray, List.set_cons_zero, List.set_cons_succ]
                  refine takeD 9 [] (.bool false) rfl rfl (by kernel_rfl) (by kernel_rfl) (by kernel_rfl) (by kernel_rfl) (by decide) (by decide) (fun _ _ _ h => h) (by rfl) (fun w' hw' => by go_simp) HS2 ?_
                  try simp only [List.setIfInBounds_toArray, List.set_cons_zero, List.set_cons_succ]
                  refine wpAnyD_done (by kernel_rfl) ?_ _
                  show _
                  have hX13 : Hid (Ext w10 w13) := hidden (hX.out.trans hXe.past_drew)
                  clear HS HS2 hXe cA cB he
                  go_wp2_with fail
                  exact ⟨⟨k + 1, by go_num, by omega, hX13⟩, by simp [intOf]; omega⟩
                · have hk9 : decide ((k : Int) < (N : Int)) = false := decide_eq_false (by omega)
                  have hX13 : Hid (Ext w w12) := hidden (hX11.out.trans hX.out)
                  go_wp2_with fail
                  refine (hcr.out _).mono ?_
                  rintro e w13 ⟨rfl, hX14⟩
                  go_wp2_with fail
                  go_ret
                  exact ⟨rfl, hX13.out.trans hX14⟩
end Go.Proofs.Ytpfelklhejpnnaa
