/- TopSuffixesTransformed: the walk of the law. -/
import Derived.Test.YtfebgcbkadmgiaaSfs
import Derived.Test.YtfebgcbkadmgiaaR
namespace Go.Proofs.Ytfebgcbkadmgiaa
open Go.RowKit
set_option linter.unusedVariables false
set_option linter.unusedSimpArgs false
attribute [local go_sem ↓] Go.wp_at_zero Go.wp_at_succ

theorem bcompare_eq (va vb : Value) (a b : List Int) (ha : Bytes a) (hb : Bytes b) (w : World) (h1 : Rd8 w va a) (h2 : Rd8 w vb b) :
    Calls Try.prog 8 #[va, vb] w fun e w' => e = .returned (.int .i64 (cmpL a b)) ∧ w' = w := by
  have hr := run_compare va vb a b ha hb w h1 h2
  obtain ⟨x, cap, rfl, p1, p2, p3⟩ := Rd.shape h1
  obtain ⟨y, dap, rfl, q1, q2, q3⟩ := Rd.shape h2
  go_enter Try.func8, Try.ntmps8
  go_wp2_with fail
  rw [run_callFunc_extern Try.func21 (by kernel_rfl) (by kernel_rfl) (by kernel_rfl) (e := Extern.BytealgCompare.compare) (by kernel_rfl), hr]
  simp only [Result.andThen]
  rw [Oper.upon_value]
  go_wp2_with fail
  go_ret
  exact ⟨rfl, rfl⟩
theorem bytes_drop {b : List Int} (hb : Bytes b) (k : Nat) : Bytes (b.drop k) := fun x hx => hb x (List.mem_of_mem_drop hx)

set_option maxRecDepth 100000 in
set_option maxHeartbeats 600000 in
theorem TopSuffixesTransformed_law (v : Value) (b : List Int) (hb : Bytes b) (w : World) (hr : Rd8 w v b) :
    Calls Try.prog 3 #[v] w fun e w' => e = .returned (.bool true) ∧ Ext w w' := by
  obtain ⟨n, hne⟩ : ∃ n, b.length = n := ⟨_, rfl⟩
  obtain ⟨ad, cap, rfl, q1, q2, q3⟩ := Rd.shape hr
  by_cases hn : 150 < n
  · rw [hne] at q1 ⊢
    have hn1 : (150 : Int) < (n : Int) := by omega
    go_enter Try.func3, Try.ntmps3
    go_wp2_with fail
    go_ret
    exact ⟨rfl, Ext.refl _⟩
  have hn1 : ¬ (150 : Int) < (n : Int) := by omega
  have hsort := sort_any _ b hb (by omega) w hr
  have hfwd := fun W (hX : Ext w W) => forward_any _ b hb (by omega) W (Rd.ext hr hX)
  have hR : Hid (Rd8 w (.slice ad n cap) b) := hidden (by rw [← hne]; exact hr)
  rw [hne] at q1 hsort hfwd ⊢
  clear hr
  replace hb := hidden hb
  replace hsort := hidden hsort
  replace hfwd := hidden hfwd
  have w1 : IntKind.i64.wrap ((n : Int) + 1) = (n : Int) + 1 := IntWalk.i64_in _ (by omega)
  go_enter Try.func3, Try.ntmps3
  go_wp2_with fail
  refine hsort.out.mono ?_
  rintro e w1 ⟨o, p, c1, rfl, hsa, hp, hpw, hc1, hc2, hX1⟩
  have hrk := ranks_any b o hsa (by omega) p c1 w1 hp
  rw [hne] at hc1 hrk ⊢
  have hol := hsa.len
  rw [hne] at hol
  replace hol := hidden hol
  replace hsa := hidden hsa
  replace hp := hidden hp
  replace hX1 := hidden hX1
  replace hrk := hidden hrk
  go_wp2_with fail
  refine hrk.out.mono ?_
  clear hrk
  rintro e w2 ⟨v2, rfl, hO2, hX2⟩
  have hX2' : Ext w w2 := hX1.out.trans hX2
  have hp2 := hp.out.ext hX2
  have hl2 : (rks b).length = n + 1 := by simp [rks, hne]
  obtain ⟨g2, cap2, rfl⟩ : ∃ g cap, v2 = .slice (some ⟨g, 0, none⟩) (n + 1) cap := by
    obtain ⟨-, h1 | ⟨g, cap, cur, rfl, -⟩⟩ := hO2
    · exact absurd h1.2 (by omega)
    · exact ⟨g, cap, by rw [hl2]⟩
  have hz2 := hO2.at 0 (by omega)
  have hf := hfwd.out w2 hX2'
  replace hf := hidden hf
  go_wp2_with fail
  refine hf.out.mono ?_
  clear hf
  rintro e w3 ⟨o3, v3, rfl, hsa3, hO3, hX3⟩
  obtain rfl := hsa3.unique hsa.out
  have hz3 := hX3.cell hz2
  have hrk0 : (rks b).getD 0 0 = (Suf.rk b 0 : Int) := by simp [rks, List.getD]
  rw [hrk0] at hz3
  have hp3 := hp2.ext hX3
  have hX3' : Ext w w3 := hX2'.trans hX3
  have hpB : p < w3.heap.size := hp3.lt
  have hinv := fun W (hW : Rd8 W v3 (Suf.tr b o3)) => inverse2_any v3 b o3 hb.out hsa3 (by omega) W hW
  have hO3' := own_mono hO3 hX2'.size
  obtain ⟨q0, hq0⟩ : ∃ q, Suf.rk b 0 = q := ⟨_, rfl⟩
  rw [hq0] at hz3 hinv ⊢
  replace hinv := hidden hinv
  replace hp3 := hidden hp3
  replace hX3' := hidden hX3'
  replace hO3' := hidden hO3'
  replace hsa3 := hidden hsa3
  replace hne := hidden hne
  have hO4 : Hid (Own8 w3 w3.heap.size (.slice none 0 0) (Suf.tr b (o3.take 0))) := hidden (World.ownsRow_nil _ _ _ _)
  have hX4 : Hid (Ext w3 w3) := hidden (Ext.refl _)
  clear hX2 hX3 hO2 hz2 hp2 hX2' hO3 hl2 hrk0 hq0 hsa hX1 hp
  have hB : w3.heap.size ≤ w3.heap.size := Nat.le_refl _
  obtain ⟨B, hBe⟩ : ∃ B, w3.heap.size = B := ⟨_, rfl⟩
  rw [hBe] at hO4 hpB
  go_wp2_with fail
  obtain ⟨i0, hi, hz0, hz1, hz2⟩ := info_parts u8infoK
  replace hi := hidden hi
  replace hBe := hidden hBe
  clear hz3
  go_loopw [10, 68] (fun u i wr => ∃ k : Nat, i = .int .i64 (k : Int) ∧ k ≤ n + 1 ∧ Hid (Own8 wr B u (Suf.tr b (o3.take k))) ∧ Hid (Ext w3 wr)) (fun _ i _ => n + 1 - (intOf i).toNat)
  case atStart => exact ⟨0, rfl, by omega, hO4, hX4⟩
  case round =>
    clear hO4 hX4
    obtain ⟨k, rfl, hk, hO, hX⟩ := hrel
    have v1 : IntKind.i64.wrap ((k : Int) + 1) = (k : Int) + 1 := IntWalk.i64_in _ (by omega)
    obtain ⟨w4, hWW⟩ : ∃ X, X = wr := ⟨_, rfl⟩
    subst hWW
    have hp4 := hp3.out.ext hX.out
    by_cases hlt : k < n + 1
    · have hlt2 : (k : Int) < (n : Int) + 1 := by omega
      have cp := hp4.cell k _ (nv_get o3 k (by rw [hol.out]; omega))
      have hst := tr_step (b := b) (o := o3) (k := k) (by rw [hol.out]; omega)
      have hle : ∀ j, j < n + 1 → o3.getD j 0 ≤ n := fun j hj => by
        have h1 := hsa3.out.le j (by rw [hol.out]; omega)
        rw [List.getD_eq_getElem?_getD, List.getElem?_eq_getElem (by rw [hol.out]; omega)]
        rw [hne.out] at h1
        exact h1
      have hleq := hle k hlt
      obtain ⟨D, hD⟩ : ∃ D, Suf.tr b (o3.take k) = D := ⟨_, rfl⟩
      rw [hD] at hO hst
      have hDl : D.length ≤ k := by
        rw [← hD]
        unfold Suf.tr
        rw [List.length_map]
        exact Nat.le_trans (List.length_filter_le _ _) (by rw [List.length_take]; omega)
      clear hD
      have hRw : Rd8 w4 (.slice ad n cap) b := Rd.ext hR.out (hX3'.out.trans hX.out)
      -- THE ROUND
      have hqd : decide ((o3.getD k 0 : Int) < 0) = false := decide_eq_false (by omega)
      have hqn : decide (n < o3.getD k 0) = false := decide_eq_false (by omega)
      rcases Nat.eq_zero_or_pos k with hk0 | hk0
      · obtain ⟨q, hq⟩ : ∃ q, o3.getD k 0 = q := ⟨_, rfl⟩
        rw [hq] at cp hst hleq hqd hqn
        subst hk0
        have hkd : decide ((0 : Int) < ((0 : Nat) : Int)) = false := rfl
        rw [show ((0 : Nat) : Int) = 0 from rfl] at v1 hlt2 hkd ⊢
        clear hq
        go_upto_region 12 with fail
        go_quiet (fail)
        by_cases hq0 : q = 0
        · subst hq0
          rw [if_pos rfl, List.append_nil] at hst
          replace hst := hidden hst
          go_wp2_with fail
          go_roundw
          case rel => exact ⟨0 + 1, rfl, by omega, hidden (by rw [hst.out]; exact hO.out), hidden (hX.out.drewN nq)⟩
          case measure => simp [intOf]
        · rw [if_neg hq0] at hst
          obtain ⟨m, rfl⟩ : ∃ m, q = m + 1 := ⟨q - 1, by omega⟩
          rw [Nat.add_sub_cancel] at hst
          have hmb : m < b.length := by rw [hne.out]; omega
          obtain ⟨bb, off, rfl, hbb⟩ := Rd8.some hRw (by omega)
          have cB := (Rd8.at hRw m hmb)
          obtain ⟨y, hy⟩ : ∃ y, b.getD m 0 = y := ⟨_, rfl⟩
          rw [hy] at cB hst
          replace hst := hidden hst
          have v4 : IntKind.i64.wrap ((m : Int) + 1 - 1) = (m : Int) := by rw [IntWalk.i64_in _ (by omega)]; omega
          have v5 : IntKind.i64.wrap (m : Int) = (m : Int) := IntWalk.i64_in _ (by omega)
          have m1 : (m : Int) < (n : Int) := by omega
          have m2 : (0 : Int) < (m : Int) + 1 := by omega
          have ecp : (((m + 1 : Nat) : Int)) = (m : Int) + 1 := by omega
          rw [ecp]
          clear hmb ecp hq0 hbb hy
          obtain ⟨av, dv, rfl, d1, d2, -⟩ := own_shape hO.out
          obtain ⟨L, hL⟩ : ∃ L, D.length = L := ⟨_, rfl⟩
          rw [hL] at hDl d1 ⊢
          have hO' : Hid (Own8 w4 B (.slice av L dv) D) := by rw [← hL]; exact hO
          have hO2 := hO'.out
          unfold Own8 at hO2
          rw [hL] at hO2
          replace hO2 := hidden hO2
          replace hL := hidden hL
          clear hO hO' hRw
          go_wp2_with (at_builtin; refine wpList_append_own _ rfl _ _ 22 rfl B 5 i0 (.int .u8 0) 1 1 Try.underlying22 hi.out hz0 hz1 hz2 rfl (by decide) _ L (bs D) rfl (own_ext hO2.out (((Ext.refl w4).drewN nq).alloc _)) ⟨w4.heap.size, 0, none⟩ 1 1 [.int .u8 y] rfl rfl (World.news_of_block (cs := #[.int .u8 y]) (t := 5) (fr := (0, 0)) (heap_alloc_new (w4.drewN nq) _)) (by simp [Value.oneCell']) (by unfold maxLen; omega) (by omega) (by simp; have := hX.out.size; rw [hBe.out] at this; omega) ?_; intro v1 w5 hown hgrow hnil)
          have hO3 : Own8 w5 B v1 (Suf.tr b (o3.take (0 + 1))) := by
            rw [hst.out]
            unfold Own8
            rw [bs_app, List.length_append, hL.out]
            exact hown
          have hlt4 : ∀ x, (Value.slice av L dv).ownBlock = some x → B ≤ x := fun x hx => (own_lt hO2.out hx).1
          have hX5 : Ext w3 w5 := Chg.ext ((Chg.of_ext [] ((hX.out.drewN nq).alloc (.cells #[.int .u8 y] 5))).grown hgrow (fun x hx => Or.inr (by have := hlt4 x hx; rw [hBe.out]; omega)))
          exact ⟨⟨0 + 1, rfl, by omega, hidden hO3, hidden hX5⟩, by simp [intOf]⟩
      · obtain ⟨j, rfl⟩ : ∃ j, k = j + 1 := ⟨k - 1, by omega⟩
        have cq := hp4.cell j _ (nv_get o3 j (by rw [hol.out]; omega))
        have hlj := hle j (by omega)
        have hasc := (hsa3.out.asc (i := j) (j := j + 1) (by rw [hol.out]; omega) (by rw [hol.out]; omega)).2 (by omega)
        have ej : o3[j]'(by rw [hol.out]; omega) = o3.getD j 0 := by rw [List.getD_eq_getElem?_getD, List.getElem?_eq_getElem (by rw [hol.out]; omega)]; rfl
        have ek : o3[j + 1]'(by rw [hol.out]; omega) = o3.getD (j + 1) 0 := by rw [List.getD_eq_getElem?_getD, List.getElem?_eq_getElem (by rw [hol.out]; omega)]; rfl
        rw [ej, ek] at hasc
        clear ej ek
        obtain ⟨q, hq⟩ : ∃ q, o3.getD (j + 1) 0 = q := ⟨_, rfl⟩
        obtain ⟨r, hr⟩ : ∃ q, o3.getD j 0 = q := ⟨_, rfl⟩
        rw [hq] at cp hst hleq hqd hqn hasc
        rw [hr] at cq hlj hasc
        clear hq hr
        obtain ⟨ar, cr, hrunr, Rr⟩ := cut_l (P := Try.prog) (t := 22) Try.underlying22 Try.sizeOf5 (show Rd w4 1 (.slice ad n cap) n (bs b) from by have := hRw; unfold Rd8 at this; rw [hne.out] at this; exact this) r (r : Int) rfl hlj
        obtain ⟨aq, cq2, hrunq, Rq⟩ := cut_l (P := Try.prog) (t := 22) Try.underlying22 Try.sizeOf5 (show Rd w4 1 (.slice ad n cap) n (bs b) from by have := hRw; unfold Rd8 at this; rw [hne.out] at this; exact this) q (q : Int) rfl hleq
        obtain ⟨Rr, -⟩ := Rr
        obtain ⟨Rq, -⟩ := Rq
        rw [Nat.mul_one] at Rr Rq
        have Rr8 : Rd8 w4 (.slice ar (n - r) cr) (b.drop r) := by unfold Rd8; rw [List.length_drop, hne.out, show bs (b.drop r) = (bs b).drop r by simp [bs]]; exact Rr
        have Rq8 : Rd8 w4 (.slice aq (n - q) cq2) (b.drop q) := by unfold Rd8; rw [List.length_drop, hne.out, show bs (b.drop q) = (bs b).drop q by simp [bs]]; exact Rq
        have hcmp := fun m : Nat => bcompare_eq _ _ (b.drop r) (b.drop q) (bytes_drop hb.out r) (bytes_drop hb.out q) (w4.drewN m) (Rd.ext Rr8 ((Ext.refl w4).drewN m)) (Rd.ext Rq8 ((Ext.refl w4).drewN m))
        have hneg := (cmpL_lt _ _).2 hasc
        obtain ⟨c, hc⟩ : ∃ c, cmpL (b.drop r) (b.drop q) = c := ⟨_, rfl⟩
        rw [hc] at hcmp hneg
        have hge : decide (0 ≤ c) = false := decide_eq_false (by omega)
        have v6 : IntKind.i64.wrap ((j : Int) + 1 - 1) = (j : Int) := by rw [IntWalk.i64_in _ (by omega)]; omega
        have v7 : (0 : Int) < (j : Int) + 1 := by omega
        have v8 : (j : Int) < (n : Int) + 1 := by omega
        have ek : ((j + 1 : Nat) : Int) = (j : Int) + 1 := by omega
        rw [ek] at v1 hlt2 ⊢
        replace hcmp := hidden hcmp
        clear Rr Rq Rr8 Rq8 hasc hc hneg ek
        go_upto_region 12 with fail
        go_quiet ((go_at_call 8; exact Calls.quiet_of_same (hcmp.out _)))
        by_cases hq0 : q = 0
        · subst hq0
          rw [if_pos rfl, List.append_nil] at hst
          replace hst := hidden hst
          go_wp2_with fail
          go_roundw
          case rel => exact ⟨j + 1 + 1, by go_num, by omega, hidden (by rw [hst.out]; exact hO.out), hidden (hX.out.drewN nq)⟩
          case measure => simp [intOf]; omega
        · rw [if_neg hq0] at hst
          obtain ⟨m, rfl⟩ : ∃ m, q = m + 1 := ⟨q - 1, by omega⟩
          rw [Nat.add_sub_cancel] at hst
          have hmb : m < b.length := by rw [hne.out]; omega
          obtain ⟨bb, off, rfl, hbb⟩ := Rd8.some hRw (by omega)
          have cB := (Rd8.at hRw m hmb)
          obtain ⟨y, hy⟩ : ∃ y, b.getD m 0 = y := ⟨_, rfl⟩
          rw [hy] at cB hst
          replace hst := hidden hst
          have v4 : IntKind.i64.wrap ((m : Int) + 1 - 1) = (m : Int) := by rw [IntWalk.i64_in _ (by omega)]; omega
          have v5 : IntKind.i64.wrap (m : Int) = (m : Int) := IntWalk.i64_in _ (by omega)
          have m1 : (m : Int) < (n : Int) := by omega
          have m2 : (0 : Int) < (m : Int) + 1 := by omega
          have ecp : (((m + 1 : Nat) : Int)) = (m : Int) + 1 := by omega
          rw [ecp]
          clear hmb ecp hq0 hbb hy
          obtain ⟨av, dv, rfl, d1, d2, -⟩ := own_shape hO.out
          obtain ⟨L, hL⟩ : ∃ L, D.length = L := ⟨_, rfl⟩
          rw [hL] at hDl d1 ⊢
          have hO' : Hid (Own8 w4 B (.slice av L dv) D) := by rw [← hL]; exact hO
          have hO2 := hO'.out
          unfold Own8 at hO2
          rw [hL] at hO2
          replace hO2 := hidden hO2
          replace hL := hidden hL
          clear hO hO' hRw
          go_wp2_with (at_builtin; refine wpList_append_own _ rfl _ _ 22 rfl B 5 i0 (.int .u8 0) 1 1 Try.underlying22 hi.out hz0 hz1 hz2 rfl (by decide) _ L (bs D) rfl (own_ext hO2.out (((Ext.refl w4).drewN nq).alloc _)) ⟨w4.heap.size, 0, none⟩ 1 1 [.int .u8 y] rfl rfl (World.news_of_block (cs := #[.int .u8 y]) (t := 5) (fr := (0, 0)) (heap_alloc_new (w4.drewN nq) _)) (by simp [Value.oneCell']) (by unfold maxLen; omega) (by omega) (by simp; have := hX.out.size; rw [hBe.out] at this; omega) ?_; intro v1 w5 hown hgrow hnil)
          have hO3 : Own8 w5 B v1 (Suf.tr b (o3.take (j + 1 + 1))) := by
            rw [hst.out]
            unfold Own8
            rw [bs_app, List.length_append, hL.out]
            exact hown
          have hlt4 : ∀ x, (Value.slice av L dv).ownBlock = some x → B ≤ x := fun x hx => (own_lt hO2.out hx).1
          have hX5 : Ext w3 w5 := Chg.ext ((Chg.of_ext [] ((hX.out.drewN nq).alloc (.cells #[.int .u8 y] 5))).grown hgrow (fun x hx => Or.inr (by have := hlt4 x hx; rw [hBe.out]; omega)))
          exact ⟨⟨j + 1 + 1, by go_num, by omega, hidden hO3, hidden hX5⟩, by simp [intOf]; omega⟩
    · have hkn : k = n + 1 := by omega
      have hO2 := hO.out
      rw [List.take_of_length_le (by rw [hol.out]; omega)] at hO2
      have hlt3 : decide ((k : Int) < (n : Int) + 1) = false := decide_eq_false (by omega)
      replace hO2 := hidden hO2
      replace hkn := hidden hkn
      clear hO
      have hT : Bytes (Suf.tr b o3) := tr_bytes hb.out (fun x hx => by have := List.mem_range.1 (hsa3.out.perm.mem_iff.1 hx); omega)
      have hR3 : Rd8 w4 v3 (Suf.tr b o3) := Rd.ext (Own8.rd hO3'.out) hX.out
      have hc := hinv.out w4 hR3
      obtain ⟨T, hT2⟩ : ∃ T, Suf.tr b o3 = T := ⟨_, rfl⟩
      rw [hT2] at hO2 hT hR3
      replace hc := hidden hc
      replace hR3 := hidden hR3
      replace hT := hidden hT
      go_wp2_with fail
      refine hc.out.mono ?_
      rintro e w5 ⟨v5, rfl, hO5, hX5⟩
      have e1 := bequal_any u10 v3 T T hT.out hT.out w5 (Rd.ext (Own8.rd hO2.out) hX5) (Rd.ext hR3.out hX5)
      have hX5' := (hX3'.out.trans hX.out).trans hX5
      replace e1 := hidden e1
      replace hX5' := hidden hX5'
      replace hO5 := hidden hO5
      clear hc hX5 hinv hfwd hsort
      go_wp2_with fail
      refine e1.out.mono ?_
      rintro e w6 ⟨rfl, hX6⟩
      have e2 := bequal_any v5 (.slice ad n cap) b b hb.out hb.out w6 (Rd.ext (Own8.rd hO5.out) hX6) (Rd.ext hR.out (hX5'.out.trans hX6))
      replace e2 := hidden e2
      simp only [decide_true]
      go_wp2_with fail
      refine e2.out.mono ?_
      rintro e w7 ⟨rfl, hX7⟩
      simp only [decide_true]
      go_wp2_with fail
      go_ret
      exact ⟨rfl, (hX5'.out.trans hX6).trans hX7⟩
end Go.Proofs.Ytfebgcbkadmgiaa
