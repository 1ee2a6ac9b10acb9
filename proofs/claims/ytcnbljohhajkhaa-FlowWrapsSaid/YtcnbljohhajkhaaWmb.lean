/- Layer 18: FlowWraps. -/
import Derived.Test.YtcnbljohhajkhaaWma
import Derived.Test.YtcnbljohhajkhaaWq
namespace Go.Proofs.Ytcnbljohhajkhaa
open Go.RowKit
set_option linter.unusedVariables false
set_option linter.unusedSimpArgs false
attribute [local go_sem ↓] Go.wp_at_zero Go.wp_at_succ

theorem own_new1 (w : World) (x y : Value) (e : TypeId) : (w.alloc (.cells #[x, y] e)).ownsRow w.heap.size e 2 (.slice (some ⟨w.heap.size, 0, none⟩) 1 1) 1 [x, y] :=
  ⟨rfl, Or.inr ⟨w.heap.size, 1, #[x, y], rfl, Nat.le_refl _, heap_alloc_new w _, Nat.le_refl _, by unfold maxLen; omega, rfl, rfl⟩⟩
theorem par_bd (C : List (Int × Int)) (hl : C.length ≤ 1024) : bdT 100000 (parR C).1 ∧ nodes (parR C).1 ≤ 100000 := by
  rcases whole_law C with ⟨S, hC, hw, hd, -⟩ | ⟨e, hwe, -⟩
  · have hW := whole_of S hw hd
    have hp : parR C = (S.tr 0 .nil, 0, 0) := by unfold parR; rw [if_pos hl, hC, hW]
    have hsl : S.len ≤ 1024 := by rw [hC, Sy.len_cod] at hl; exact hl
    rw [hp]
    exact ⟨bdT_mono (by omega) _ (bdT_tr S 1024 0 .nil (by omega) trivial), by have := nodes_tr S 0 .nil; simp only [nodes] at this ⊢; omega⟩
  · have hp : parR C = (.nil, (e : Int), 15) := by unfold parR; rw [if_pos hl, hwe]
    rw [hp]
    exact ⟨trivial, by simp [nodes]⟩
theorem mvF_len (t : T) : (mvF t).len = t.len := by
  induction t with
  | nil => rfl
  | cons op f t b o r _ _ ih => simp only [mvF, T.len, ih]
theorem mvF_dp (t : T) : dpF (mvF t) = dpF t := by
  induction t with
  | nil => rfl
  | cons op f t b o r i1 i2 i3 => simp only [mvF, dpF, i1, i2, i3]
set_option maxHeartbeats 4000000 in
set_option maxRecDepth 100000 in
theorem wraps_any (hL : ∀ C f, ListOK C f) (v : Value) (C : List (Int × Int)) (b : Bool) (w : World) (h : Code18 w v C) :
    Calls Try.prog 7 #[v, .bool b] w fun x w' => x = .returned (.bool true) ∧ Ext w w' := by
  have haw := hidden (awake_any hL)
  have HC := hidden h
  obtain ⟨ab, cb, rfl, hcb, -⟩ := Rd.shape h
  obtain ⟨n, hn⟩ : ∃ n, C.length = n := ⟨_, rfl⟩
  rw [hn] at HC hcb ⊢
  have Hn := hidden hn
  clear h
  go_enter Try.func7, Try.ntmps7
  by_cases hbig : 100 < n
  · have q1 : decide ((100 : Int) < (n : Int)) = true := by simp; omega
    clear hn
    go_wp2_with fail
    refine (haw.out w).mono ?_
    rintro x w9 ⟨rfl, hX⟩
    replace hX := hidden hX
    go_wp2_with fail
    go_ret
    exact ⟨rfl, hX.out⟩
  · have q1 : decide ((100 : Int) < (n : Int)) = false := by simp; omega
    obtain ⟨op, hop⟩ : ∃ op : Int, op = if b = true then 29 else 27 := ⟨_, rfl⟩
    have ho : op = 27 ∨ op = 29 := by rw [hop]; split <;> simp
    replace ho := hidden ho
    have hlaw := wraps_law C op ho.out (by omega)
    have hbd := par_bd C (by omega)
    have herr := parR_err C
    rw [hn] at hlaw
    replace hlaw := hidden hlaw
    replace hbd := hidden hbd
    replace herr := hidden herr
    obtain ⟨i0, hi, hz0, hz1, hz2⟩ := info_parts insinfo
    have hia := hidden hi
    clear hi hn
    have X1 : Ext w (w.alloc (.cells #[.int .i64 op, .int .u32 0] 45)) := (Ext.refl w).alloc _
    have HO1 := hidden (own_new1 w (.int .i64 op) (.int .u32 0) 45)
    have HC1 := hidden (show Rd (w.alloc (.cells #[.int .i64 op, .int .u32 0] 45)) 2 (.slice ab n cb) n (C.flatMap icell) by have := HC.out.ext X1; unfold Code18 at this; rw [Hn.out] at this; exact this)
    have hs1 := X1.size
    replace X1 := hidden X1
    go_upto_if 17 with fail
    go_cut [5] from 17 to 17 (fun ov wx => wx = w ∧ ov = .int .i64 op)
    case first =>
      cases b with
      | true =>
        simp only [if_true] at hop
        subst hop
        go_wp2_with fail
        go_meet
        exact ⟨rfl, rfl⟩
      | false =>
        simp only [Bool.false_eq_true, if_false] at hop
        subst hop
        go_wp2_with fail
        go_meet
        exact ⟨rfl, rfl⟩
    case rest =>
      obtain ⟨hWx, rfl⟩ := hcut
      rw [hWx]
      clear hWx hop
      go_upto_region 7 with (at_builtin; first | (refine wpList_append_rd (by rfl) _ _ 22 (by rfl) w.heap.size 45 i0 (.agg #[.int .i64 0, .int .u32 0]) 2 16 Try.underlying22 hia.out hz0 hz1 hz2 rfl (by decide) (.slice (some ⟨w.heap.size, 0, none⟩) 1 1) 1 [.int .i64 op, .int .u32 0] (by rfl) HO1.out ab n cb (C.flatMap icell) (by rfl) HC1.out (icell_one C) (by unfold maxLen; omega) (by omega) hs1 ?_; intro v2 w2 hown2 hgrow2 hat2) | (refine wpList_append_rd (by rfl) _ _ 22 (by rfl) w.heap.size 45 i0 (.agg #[.int .i64 0, .int .u32 0]) 2 16 Try.underlying22 hia.out hz0 hz1 hz2 rfl (by decide) v2 (1 + n) ([.int .i64 op, .int .u32 0] ++ C.flatMap icell) (by rfl) (own_ext hown2 ((Ext.refl w2).alloc _)) (some ⟨w2.heap.size, 0, none⟩) 1 1 [.int .i64 31, .int .u32 0] (by rfl) (rd_new1 w2 _ _ _) (by simp [Value.oneCell']) (by unfold maxLen; omega) (by omega) (by have := hgrow2.size; have := ((Ext.refl w2).alloc (.cells #[.int .i64 31, .int .u32 0] 45)).size; omega) ?_; intro v3 w3 hown3 hgrow3 hat3))
      have X2 : Ext w w2 := ((Chg.of_ext [] X1.out).grown hgrow2 (fun k hk => Or.inr (own_lt HO1.out hk).1)).ext
      have X3 : Ext w w3 := ((Chg.of_ext [] (X2.alloc (.cells #[.int .i64 31, .int .u32 0] 45))).grown hgrow3 (fun k hk => Or.inr (own_lt hown2 hk).1)).ext
      obtain ⟨N, hN⟩ : ∃ N, N = n + 2 := ⟨_, rfl⟩
      rw [show 1 + n + 1 = N by omega] at hown3
      obtain ⟨a3, c3, rfl, -, hc3, -⟩ := own_shape hown3
      have HC3 := hidden (HC.out.ext X3)
      have HW3 := hidden (show Code18 w3 (.slice a3 N c3) ((op, 0) :: (C ++ [(31, 0)])) by
        unfold Code18
        have e1 : ((op, (0 : Int)) :: (C ++ [(31, 0)])).length = N := by have := Hn.out; simp; omega
        have e2 : ((op, (0 : Int)) :: (C ++ [(31, 0)])).flatMap icell = [Value.int .i64 op, .int .u32 0] ++ C.flatMap icell ++ [.int .i64 31, .int .u32 0] := by simp [icell]
        rw [e1, e2]
        exact Rd.of_own hown3)
      have hpC := hidden (parse_any hL (.slice ab n cb) C w3 HC3.out)
      replace hN := hidden hN
      replace X3 := hidden X3
      clear X2 hown2 hown3 hgrow2 hgrow3 hat2 hat3 HO1 HC1 hs1 X1 HC
      go_wp2_with fail
      refine hpC.out.mono ?_
      rintro x w4 ⟨vt, rfl, hS, hX⟩
      have HW4 := hidden (HW3.out.ext hX)
      have HT4 := hidden hS
      have X4 := hidden (X3.out.trans hX)
      have hpW := hidden (parse_any hL (.slice a3 N c3) _ w4 HW4.out)
      clear hpC hX hS HC3 HW3 X3
      go_wp2_with fail
      refine hpW.out.mono ?_
      rintro x w5 ⟨vm, rfl, hS, hX⟩
      have HT5 := hidden (HT4.out.chg (Chg.of_ext [] hX) (by simp) (fun _ _ h => h))
      have HM5 := hidden hS
      have X5 := hidden (X4.out.trans hX)
      clear hpW hX hS HW4 HT4 X4
      generalize parR C = pr at HT5 hlaw hbd herr ⊢
      obtain ⟨t, p, e⟩ := pr
      have hlaw' := hlaw.out
      have hbd' := hbd.out
      have herr' := herr.out
      simp only at HT5 hlaw' hbd' herr' ⊢
      clear hlaw hbd herr
      by_cases he : e = 0
      · subst he
        obtain ⟨l1, l2, l3⟩ := hlaw' rfl
        have hd1 := hidden (depth_all t w5 _ vt HT5.out (by omega))
        obtain ⟨dd, hdd⟩ : ∃ dd, dpF t = dd := ⟨_, rfl⟩
        obtain ⟨tl, htl⟩ : ∃ tl, t.len = tl := ⟨_, rfl⟩
        obtain ⟨at', ct', rfl, -⟩ := Rd.shape HT5.out.choose_spec.1
        rw [htl] at hd1 HT5 ⊢
        rw [hdd] at hd1 l1 l2 l3
        replace hlaw' := hidden hlaw'
        clear herr'
        by_cases h8 : dd = 8
        · have q8 : ((dd : Int) == 8) = true := by subst h8; rfl
          have l2' := l2 h8
          generalize parR ((op, 0) :: (C ++ [(31, 0)])) = pm at HM5 l2' ⊢
          obtain ⟨tm, pl, em⟩ := pm
          simp only at HM5 l2' ⊢
          subst l2'
          clear l2 l3 hlaw' h8
          go_wp2_with fail
          refine hd1.out.mono ?_
          rintro x w6 ⟨rfl, hX⟩
          have hX6 := hidden (X5.out.trans hX)
          clear hX
          go_wp2_with fail
          refine (haw.out w6).mono ?_
          rintro x w7 ⟨rfl, hX⟩
          have hX7 := hidden (hX6.out.trans hX)
          clear hX
          go_wp2_with fail
          go_ret
          exact ⟨rfl, hX7.out⟩
        · have q8 : ((dd : Int) == 8) = false := by simp; omega
          have l3' := l3 h8
          rw [l3'] at HM5 ⊢
          simp only at HM5 ⊢
          replace l3' := hidden l3'
          clear l2 l3
          have hnN : ((n + 2 : Nat) : Int) = (N : Int) := by have := hN.out; omega
          rw [hnN] at HM5
          go_wp2_with fail
          refine hd1.out.mono ?_
          rintro x w6 ⟨rfl, hX⟩
          have HT6 := HT5.out.chg (Chg.of_ext [] hX) (by simp) (fun _ _ h => h)
          have HM6 := HM5.out.chg (Chg.of_ext [] hX) (by simp) (fun _ _ h => h)
          have hX6 := hidden (X5.out.trans hX)
          obtain ⟨pb, po, cp, vb, vo, hve, hbS, hoS, -, y0, y1, y2, y3, y4⟩ := fr_at (t1 := .nil) HM6 rfl
          rw [show (T.cons op 0 (N : Int) (mvF t) .nil .nil).len = 1 from rfl] at hve
          subst hve
          simp only [show T.nil.len * 5 = 0 from rfl, Nat.add_zero] at y0 y1 y2 y3 y4
          obtain ⟨ab', cb', rfl, -⟩ := Rd.shape hbS.choose_spec.1
          rw [mvF_len, htl] at y3 hbS
          obtain ⟨S0, hS0⟩ : ∃ S0 : World → Prop, S0 = fun W' => W'.cell? ⟨pb, po, none⟩ = some (.int .i64 op) ∧ W'.cell? ⟨pb, po + 1, none⟩ = some (.int .i64 0) ∧ W'.cell? ⟨pb, po + 2, none⟩ = some (.int .i64 (N : Int)) ∧ W'.cell? ⟨pb, po + 3, none⟩ = some (.slice ab' tl cb') := ⟨_, rfl⟩
          have HSi : ∀ W', Ext w6 W' → S0 W' := fun W' X => by rw [hS0]; exact ⟨X.cell y0, X.cell y1, X.cell y2, X.cell y3⟩
          have hdm := hidden (fun W' (X : Ext w6 W') => by
            have := depth_all (.cons op 0 (N : Int) (mvF t) .nil .nil) W' _ (.slice (some ⟨pb, po, none⟩) 1 cp) (HM6.chg (Chg.of_ext [] X) (by simp) (fun _ _ h => h)) (by simp only [dpF, mvF_dp, hdd]; split <;> omega)
            rw [show dpF (.cons op 0 (N : Int) (mvF t) .nil .nil) = dd + 1 by simp only [dpF, mvF_dp, hdd]; rw [if_neg (by have := ho.out; omega)]; omega] at this
            exact this : ∀ W', Ext w6 W' → Calls Try.prog 22 #[.slice (some ⟨pb, po, none⟩) 1 cp] W' fun x w' => x = .returned (.int .i64 ((dd + 1 : Nat) : Int)) ∧ Ext W' w')
          have hdl := hidden (fun W' (X : Ext w6 W') => by
            have := depth_all t W' _ (.slice at' tl ct') (HT6.chg (Chg.of_ext [] X) (by simp) (fun _ _ h => h)) (by omega)
            rw [hdd] at this
            exact this : ∀ W', Ext w6 W' → Calls Try.prog 22 #[.slice at' tl ct'] W' fun x w' => x = .returned (.int .i64 (dd : Int)) ∧ Ext W' w')
          have hmv := hidden (fun W' (X : Ext w6 W') => moved_all t W' _ (.slice at' tl ct') (HT6.chg (Chg.of_ext [] X) (by simp) (fun _ _ h => h)) hbd'.1 hbd'.2)
          have hsm := hidden (fun W' vq (Q' : Nat → Prop) (X : Ext w6 W') (hq : SubAt W' Q' vq (mvF t)) => same_all (mvF t) W' _ Q' (.slice ab' tl cb') vq (hbS.chg (Chg.of_ext [] X) (by simp) (fun _ _ h => h)) hq)
          have hwd : IntKind.i64.wrap ((dd : Int) + 1) = (dd : Int) + 1 := IntWalk.i64_in _ (by omega)
          replace HSi := hidden HSi
          have hSo := hidden (fun (W' : World) (h : S0 W') => by rw [hS0] at h; exact h : ∀ W', S0 W' → _ ∧ _ ∧ _ ∧ _)
          replace hS0 := hidden hS0
          replace hdd := hidden hdd
          replace htl := hidden htl
          clear hbS hoS HM6 HT6 HM5 HT5 hX y0 y1 y2 y3 y4 hbd' hd1
          go_upto_region 13 with fail
          refine wp_region_held_drew (S := S0) (by kernel_rfl) (HSi.out _ (Ext.refl _).drew) (fun HS => ?_)
          refine takeH 0 (.int .i64 0) rfl rfl (by kernel_rfl) (by kernel_rfl) (by kernel_rfl) (fun _ _ _ h => h) (by rfl) (fun w' hw' => by go_simp) HS ?_
          simp only [List.setIfInBounds_toArray, List.set_cons_zero, List.set_cons_succ]
          refine takeH 1 (.bool true) rfl rfl (by kernel_rfl) (by kernel_rfl) (by kernel_rfl) (fun _ _ _ h => h) (by rfl) (fun w' hw' => by go_simp) HS ?_
          simp only [List.setIfInBounds_toArray, List.set_cons_zero, List.set_cons_succ]
          refine takeH 2 (.bool true) rfl rfl (by kernel_rfl) (by kernel_rfl) (by kernel_rfl) (fun _ _ _ h => h) (by rfl) (fun w' hw' => by go_simp) HS ?_
          simp only [List.setIfInBounds_toArray, List.set_cons_zero, List.set_cons_succ]
          refine takeH 3 (.slice (some ⟨pb, po, none⟩) 1 cp) rfl rfl (by kernel_rfl) (by kernel_rfl) (by kernel_rfl) (fun _ _ _ h => h) (by rfl) (fun w' hw' => by go_simp) HS ?_
          simp only [List.setIfInBounds_toArray, List.set_cons_zero, List.set_cons_succ]
          refine takeH 4 (.int .i64 1) rfl rfl (by kernel_rfl) (by kernel_rfl) (by kernel_rfl) (fun _ _ _ h => h) (by rfl) (fun w' hw' => by go_simp) HS ?_
          simp only [List.setIfInBounds_toArray, List.set_cons_zero, List.set_cons_succ]
          refine takeH 5 (.bool true) rfl rfl (by kernel_rfl) (by kernel_rfl) (by kernel_rfl) (fun _ _ _ h => h) (by rfl) (fun w' hw' => by go_simp) HS ?_
          simp only [List.setIfInBounds_toArray, List.set_cons_zero, List.set_cons_succ]
          refine takeH 6 (.bool true) rfl rfl (by kernel_rfl) (by kernel_rfl) (by kernel_rfl) (fun _ _ _ h => h) (by rfl) (fun w' hw' => by go_simp) HS ?_
          simp only [List.setIfInBounds_toArray, List.set_cons_zero, List.set_cons_succ]
          refine takeH 7 (.bool true) rfl rfl (by kernel_rfl) (by kernel_rfl) (by kernel_rfl) (fun _ _ _ h => h) (by rfl) (fun w' hw' => by go_simp) HS ?_
          simp only [List.setIfInBounds_toArray, List.set_cons_zero, List.set_cons_succ]
          refine takeH 8 (.slice (some ⟨pb, po, none⟩) 1 cp) rfl rfl (by kernel_rfl) (by kernel_rfl) (by kernel_rfl) (fun _ _ _ h => h) (by rfl) (fun w' hw' => by go_simp) HS ?_
          simp only [List.setIfInBounds_toArray, List.set_cons_zero, List.set_cons_succ]
          refine takeH 9 (.pointer (some ⟨pb, po, none⟩)) rfl rfl (by kernel_rfl) (by kernel_rfl) (by kernel_rfl) (fun _ _ _ h => h) (by rfl) (fun w' hw' => by go_simp) HS ?_
          simp only [List.setIfInBounds_toArray, List.set_cons_zero, List.set_cons_succ]
          refine takeH 10 (.pointer (some ⟨pb, po, none⟩)) rfl rfl (by kernel_rfl) (by kernel_rfl) (by kernel_rfl) (fun _ _ _ h => h) (by rfl) (fun w' hw' => by go_simp) HS ?_
          simp only [List.setIfInBounds_toArray, List.set_cons_zero, List.set_cons_succ]
          refine takeH 11 (.int .i64 op) rfl rfl (by kernel_rfl) (by kernel_rfl) (by kernel_rfl) (fun _ _ _ h => h) (by rfl) (fun w' hw' => by obtain ⟨y0, y1, y2, y3⟩ := hSo.out w' hw'; go_simp) HS ?_
          simp only [List.setIfInBounds_toArray, List.set_cons_zero, List.set_cons_succ]
          refine takeH 12 (.int .i64 op) rfl rfl (by kernel_rfl) (by kernel_rfl) (by kernel_rfl) (fun _ _ _ h => h) (by rfl) (fun w' hw' => by go_simp) HS ?_
          simp only [List.setIfInBounds_toArray, List.set_cons_zero, List.set_cons_succ]
          refine takeH 13 (.bool true) rfl rfl (by kernel_rfl) (by kernel_rfl) (by kernel_rfl) (fun _ _ _ h => h) (by rfl) (fun w' hw' => by go_simp) HS ?_
          simp only [List.setIfInBounds_toArray, List.set_cons_zero, List.set_cons_succ]
          refine takeH 14 (.bool true) rfl rfl (by kernel_rfl) (by kernel_rfl) (by kernel_rfl) (fun _ _ _ h => h) (by rfl) (fun w' hw' => by go_simp) HS ?_
          simp only [List.setIfInBounds_toArray, List.set_cons_zero, List.set_cons_succ]
          refine takeH 15 (.bool true) rfl rfl (by kernel_rfl) (by kernel_rfl) (by kernel_rfl) (fun _ _ _ h => h) (by rfl) (fun w' hw' => by go_simp) HS ?_
          simp only [List.setIfInBounds_toArray, List.set_cons_zero, List.set_cons_succ]
          refine takeH 16 (.slice (some ⟨pb, po, none⟩) 1 cp) rfl rfl (by kernel_rfl) (by kernel_rfl) (by kernel_rfl) (fun _ _ _ h => h) (by rfl) (fun w' hw' => by go_simp) HS ?_
          simp only [List.setIfInBounds_toArray, List.set_cons_zero, List.set_cons_succ]
          refine takeH 17 (.pointer (some ⟨pb, po, none⟩)) rfl rfl (by kernel_rfl) (by kernel_rfl) (by kernel_rfl) (fun _ _ _ h => h) (by rfl) (fun w' hw' => by go_simp) HS ?_
          simp only [List.setIfInBounds_toArray, List.set_cons_zero, List.set_cons_succ]
          refine takeH 18 (.pointer (some ⟨pb, po + 1, none⟩)) rfl rfl (by kernel_rfl) (by kernel_rfl) (by kernel_rfl) (fun _ _ _ h => h) (by rfl) (fun w' hw' => by go_simp) HS ?_
          simp only [List.setIfInBounds_toArray, List.set_cons_zero, List.set_cons_succ]
          refine takeH 19 (.int .i64 0) rfl rfl (by kernel_rfl) (by kernel_rfl) (by kernel_rfl) (fun _ _ _ h => h) (by rfl) (fun w' hw' => by obtain ⟨y0, y1, y2, y3⟩ := hSo.out w' hw'; go_simp) HS ?_
          simp only [List.setIfInBounds_toArray, List.set_cons_zero, List.set_cons_succ]
          refine takeH 20 (.bool true) rfl rfl (by kernel_rfl) (by kernel_rfl) (by kernel_rfl) (fun _ _ _ h => h) (by rfl) (fun w' hw' => by go_simp) HS ?_
          simp only [List.setIfInBounds_toArray, List.set_cons_zero, List.set_cons_succ]
          refine takeH 21 (.bool true) rfl rfl (by kernel_rfl) (by kernel_rfl) (by kernel_rfl) (fun _ _ _ h => h) (by rfl) (fun w' hw' => by go_simp) HS ?_
          simp only [List.setIfInBounds_toArray, List.set_cons_zero, List.set_cons_succ]
          refine takeH 22 (.bool true) rfl rfl (by kernel_rfl) (by kernel_rfl) (by kernel_rfl) (fun _ _ _ h => h) (by rfl) (fun w' hw' => by go_simp) HS ?_
          simp only [List.setIfInBounds_toArray, List.set_cons_zero, List.set_cons_succ]
          refine takeH 23 (.slice (some ⟨pb, po, none⟩) 1 cp) rfl rfl (by kernel_rfl) (by kernel_rfl) (by kernel_rfl) (fun _ _ _ h => h) (by rfl) (fun w' hw' => by go_simp) HS ?_
          simp only [List.setIfInBounds_toArray, List.set_cons_zero, List.set_cons_succ]
          refine takeH 24 (.pointer (some ⟨pb, po, none⟩)) rfl rfl (by kernel_rfl) (by kernel_rfl) (by kernel_rfl) (fun _ _ _ h => h) (by rfl) (fun w' hw' => by go_simp) HS ?_
          simp only [List.setIfInBounds_toArray, List.set_cons_zero, List.set_cons_succ]
          refine takeH 25 (.pointer (some ⟨pb, po + 2, none⟩)) rfl rfl (by kernel_rfl) (by kernel_rfl) (by kernel_rfl) (fun _ _ _ h => h) (by rfl) (fun w' hw' => by go_simp) HS ?_
          simp only [List.setIfInBounds_toArray, List.set_cons_zero, List.set_cons_succ]
          refine takeH 26 (.int .i64 (N : Int)) rfl rfl (by kernel_rfl) (by kernel_rfl) (by kernel_rfl) (fun _ _ _ h => h) (by rfl) (fun w' hw' => by obtain ⟨y0, y1, y2, y3⟩ := hSo.out w' hw'; go_simp) HS ?_
          simp only [List.setIfInBounds_toArray, List.set_cons_zero, List.set_cons_succ]
          refine takeH 27 (.slice a3 N c3) rfl rfl (by kernel_rfl) (by kernel_rfl) (by kernel_rfl) (fun _ _ _ h => h) (by rfl) (fun w' hw' => by go_simp) HS ?_
          simp only [List.setIfInBounds_toArray, List.set_cons_zero, List.set_cons_succ]
          refine takeH 28 (.int .i64 (N : Int)) rfl rfl (by kernel_rfl) (by kernel_rfl) (by kernel_rfl) (fun _ _ _ h => h) (by rfl) (fun w' hw' => by go_simp) HS ?_
          simp only [List.setIfInBounds_toArray, List.set_cons_zero, List.set_cons_succ]
          refine takeH 29 (.bool true) rfl rfl (by kernel_rfl) (by kernel_rfl) (by kernel_rfl) (fun _ _ _ h => h) (by rfl) (fun w' hw' => by go_simp) HS ?_
          simp only [List.setIfInBounds_toArray, List.set_cons_zero, List.set_cons_succ]
          refine takeH 30 (.bool true) rfl rfl (by kernel_rfl) (by kernel_rfl) (by kernel_rfl) (fun _ _ _ h => h) (by rfl) (fun w' hw' => by go_simp) HS ?_
          simp only [List.setIfInBounds_toArray, List.set_cons_zero, List.set_cons_succ]
          refine takeH 31 (.bool true) rfl rfl (by kernel_rfl) (by kernel_rfl) (by kernel_rfl) (fun _ _ _ h => h) (by rfl) (fun w' hw' => by go_simp) HS ?_
          simp only [List.setIfInBounds_toArray, List.set_cons_zero, List.set_cons_succ]
          refine takeH 32 (.slice (some ⟨pb, po, none⟩) 1 cp) rfl rfl (by kernel_rfl) (by kernel_rfl) (by kernel_rfl) (fun _ _ _ h => h) (by rfl) (fun w' hw' => by go_simp) HS ?_
          simp only [List.setIfInBounds_toArray, List.set_cons_zero, List.set_cons_succ]
          refine takeH 34 (.slice at' tl ct') rfl rfl (by kernel_rfl) (by kernel_rfl) (by kernel_rfl) (fun _ _ _ h => h) (by rfl) (fun w' hw' => by go_simp) HS ?_
          simp only [List.setIfInBounds_toArray, List.set_cons_zero, List.set_cons_succ]
          refine callH 33 22 #[.slice (some ⟨pb, po, none⟩) 1 cp] rfl rfl (by kernel_rfl) (by rfl) (by go_simp) (hdm.out _ (Ext.refl _).drew) ?_
          rintro e x1 ⟨rfl, g1⟩
          have G1 := (Ext.refl w6).drew.trans g1
          refine ⟨_, rfl, HSi.out x1 G1, ?_⟩
          simp only [List.setIfInBounds_toArray, List.set_cons_zero, List.set_cons_succ]
          refine callH 35 22 #[.slice at' tl ct'] rfl rfl (by kernel_rfl) (by rfl) (by go_simp) (hdl.out _ G1) ?_
          rintro e x2 ⟨rfl, g2⟩
          have G2 := G1.trans g2
          have HS2 := HSi.out x2 G2
          refine ⟨_, rfl, HS2, ?_⟩
          simp only [List.setIfInBounds_toArray, List.set_cons_zero, List.set_cons_succ]
          refine takeH 36 (.int .i64 ((dd : Int) + 1)) rfl rfl (by kernel_rfl) (by kernel_rfl) (by kernel_rfl) (fun _ _ _ h => h) (by rfl) (fun w' hw' => by go_simp) HS2 ?_
          simp only [List.setIfInBounds_toArray, List.set_cons_zero, List.set_cons_succ]
          refine takeH 37 (.bool true) rfl rfl (by kernel_rfl) (by kernel_rfl) (by kernel_rfl) (fun _ _ _ h => h) (by rfl) (fun w' hw' => by go_simp) HS2 ?_
          simp only [List.setIfInBounds_toArray, List.set_cons_zero, List.set_cons_succ]
          refine takeH 38 (.bool true) rfl rfl (by kernel_rfl) (by kernel_rfl) (by kernel_rfl) (fun _ _ _ h => h) (by rfl) (fun w' hw' => by go_simp) HS2 ?_
          simp only [List.setIfInBounds_toArray, List.set_cons_zero, List.set_cons_succ]
          refine takeH 39 (.bool true) rfl rfl (by kernel_rfl) (by kernel_rfl) (by kernel_rfl) (fun _ _ _ h => h) (by rfl) (fun w' hw' => by go_simp) HS2 ?_
          simp only [List.setIfInBounds_toArray, List.set_cons_zero, List.set_cons_succ]
          refine takeH 40 (.slice (some ⟨pb, po, none⟩) 1 cp) rfl rfl (by kernel_rfl) (by kernel_rfl) (by kernel_rfl) (fun _ _ _ h => h) (by rfl) (fun w' hw' => by go_simp) HS2 ?_
          simp only [List.setIfInBounds_toArray, List.set_cons_zero, List.set_cons_succ]
          refine takeH 41 (.pointer (some ⟨pb, po, none⟩)) rfl rfl (by kernel_rfl) (by kernel_rfl) (by kernel_rfl) (fun _ _ _ h => h) (by rfl) (fun w' hw' => by go_simp) HS2 ?_
          simp only [List.setIfInBounds_toArray, List.set_cons_zero, List.set_cons_succ]
          refine takeH 42 (.pointer (some ⟨pb, po + 3, none⟩)) rfl rfl (by kernel_rfl) (by kernel_rfl) (by kernel_rfl) (fun _ _ _ h => h) (by rfl) (fun w' hw' => by go_simp) HS2 ?_
          simp only [List.setIfInBounds_toArray, List.set_cons_zero, List.set_cons_succ]
          refine takeH 43 (.slice ab' tl cb') rfl rfl (by kernel_rfl) (by kernel_rfl) (by kernel_rfl) (fun _ _ _ h => h) (by rfl) (fun w' hw' => by obtain ⟨y0, y1, y2, y3⟩ := hSo.out w' hw'; go_simp) HS2 ?_
          simp only [List.setIfInBounds_toArray, List.set_cons_zero, List.set_cons_succ]
          refine takeH 44 (.slice at' tl ct') rfl rfl (by kernel_rfl) (by kernel_rfl) (by kernel_rfl) (fun _ _ _ h => h) (by rfl) (fun w' hw' => by go_simp) HS2 ?_
          simp only [List.setIfInBounds_toArray, List.set_cons_zero, List.set_cons_succ]
          refine callH 45 23 #[.slice at' tl ct'] rfl rfl (by kernel_rfl) (by rfl) (by go_simp) (hmv.out _ G2) ?_
          rintro e x3 ⟨vq, rfl, s3, g3⟩
          have G3 := G2.trans g3
          refine ⟨_, rfl, HSi.out x3 G3, ?_⟩
          simp only [List.setIfInBounds_toArray, List.set_cons_zero, List.set_cons_succ]
          refine callH 46 13 #[.slice ab' tl cb', vq] rfl rfl (by kernel_rfl) (by rfl) (by go_simp) (hsm.out _ _ _ G3 s3) ?_
          rintro e x4 ⟨rfl, g4⟩
          have G4 := G3.trans g4
          have HS4 := HSi.out x4 G4
          refine ⟨_, rfl, HS4, ?_⟩
          simp only [List.setIfInBounds_toArray, List.set_cons_zero, List.set_cons_succ]
          refine takeH 47 (.bool true) rfl rfl (by kernel_rfl) (by kernel_rfl) (by kernel_rfl) (fun _ _ _ h => h) (by rfl) (fun w' hw' => by go_simp) HS4 ?_
          simp only [List.setIfInBounds_toArray, List.set_cons_zero, List.set_cons_succ]
          refine takeH 48 (.bool true) rfl rfl (by kernel_rfl) (by kernel_rfl) (by kernel_rfl) (fun _ _ _ h => h) (by rfl) (fun w' hw' => by go_simp) HS4 ?_
          simp only [List.setIfInBounds_toArray, List.set_cons_zero, List.set_cons_succ]
          refine callH 49 10 #[] rfl rfl (by kernel_rfl) (by rfl) (by go_simp) (haw.out x4) ?_
          rintro e x5 ⟨rfl, g5⟩
          have G5 := G4.trans g5
          have HS5 := HSi.out x5 G5
          refine ⟨_, rfl, HS5, ?_⟩
          simp only [List.setIfInBounds_toArray, List.set_cons_zero, List.set_cons_succ]
          refine takeH 50 (.bool true) rfl rfl (by kernel_rfl) (by kernel_rfl) (by kernel_rfl) (fun _ _ _ h => h) (by rfl) (fun w' hw' => by go_simp) HS5 ?_
          simp only [List.setIfInBounds_toArray, List.set_cons_zero, List.set_cons_succ]
          refine takeH 51 (.bool true) rfl rfl (by kernel_rfl) (by kernel_rfl) (by kernel_rfl) (fun _ _ _ h => h) (by rfl) (fun w' hw' => by go_simp) HS5 ?_
          simp only [List.setIfInBounds_toArray, List.set_cons_zero, List.set_cons_succ]
          refine wpAnyH_done (by kernel_rfl) ?_ _
          have hX9 := hidden (hX6.out.trans G5)
          go_wp2_with fail
          go_ret
          exact ⟨rfl, hX9.out⟩
      · have he' : (e != 0) = true := by simp; exact he
        clear hlaw' herr' hbd'
        go_wp2_with fail
        refine (haw.out w5).mono ?_
        rintro x w9 ⟨rfl, hX⟩
        have hX9 := hidden (X5.out.trans hX)
        go_wp2_with fail
        go_ret
        exact ⟨rfl, hX9.out⟩
end Go.Proofs.Ytcnbljohhajkhaa
