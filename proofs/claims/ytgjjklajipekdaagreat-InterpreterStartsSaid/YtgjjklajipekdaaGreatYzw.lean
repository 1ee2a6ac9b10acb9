/- Layer 22: Zero and Start of the reference. -/
import Derived.Test.YtgjjklajipekdaaGreatYzn
import Derived.Test.YtgjjklajipekdaaGreatKc
namespace Go.Proofs.YtgjjklajipekdaaGreat
open Go.RowKit
set_option linter.unusedVariables false
set_option linter.unusedSimpArgs false
attribute [local go_sem ↓] Go.wp_at_zero Go.wp_at_succ

set_option maxHeartbeats 4000000 in
set_option maxRecDepth 100000 in
theorem rzero_any (va : Value) (A : List (Bool × Int)) (hA8 : A.length ≤ 8) (hA2 : ∀ x ∈ A, 1 ≤ x.2 ∧ x.2 ≤ 65536) (w : World) (ra : Arr w va A) :
    Calls Tryz.prog 32 #[va] w fun x w' => ∃ ma mc, x = .returned (.agg #[ma, mc]) ∧ MemO w' w.heap.size ma mc (zerosA A) (List.replicate 16 0) ∧ Ext w w' := by
  obtain ⟨i1, hi1, hy0, hy1, hy2⟩ := info_parts sl32_info
  have hib := hidden hi1
  have X0 := (Ext.refl w).alloc (.cells #[.slice none 0 0, .slice none 0 0] 29)
  have B0 := Blk.new w [.slice none 0 0, .slice none 0 0] 29
  obtain ⟨w1, hw1⟩ : ∃ W, w.alloc (.cells #[.slice none 0 0, .slice none 0 0] 29) = W := ⟨_, rfl⟩
  have s1 : w1.heap.size = w.heap.size + 1 := by rw [← hw1]; exact Array.size_push ..
  rw [show (w.alloc (.cells ([.slice none 0 0, .slice none 0 0] : List Value).toArray 29)) = w1 from hw1] at B0
  rw [hw1] at X0
  have hw1I := hidden hw1
  have raI := hidden ra
  obtain ⟨aa, ca, rfl, hca, hca2, -⟩ := Rd.shape ra
  generalize hn : A.length = n at *
  replace hn := hidden hn
  have hA2I := hidden hA2
  have hmk := make32 w1 16 (by omega)
  rw [show ((16 : Nat) : Int) = 16 by rfl] at hmk
  have X3 := ((Ext.refl w1).alloc (.cells (madeCells #[.int .u32 0] 16) 42)).alloc (.cells #[.slice none 0 0, .slice (some ⟨w1.heap.size, 0, none⟩) 16 16] 29)
  have hBp := blk_at1 (w1.alloc (.cells (madeCells #[.int .u32 0] 16) 42)) [.slice none 0 0, .slice (some ⟨w1.heap.size, 0, none⟩) 16 16] 29 (w1.heap.size + 1) (Array.size_push ..)
  have hres := hidden (B0.ext X3)
  have hOc := own_ext (made_own w w1 X0 16 (by omega)) ((Ext.refl (w1.alloc (.cells (madeCells #[.int .u32 0] 16) 42))).alloc (.cells #[.slice none 0 0, .slice (some ⟨w1.heap.size, 0, none⟩) 16 16] 29))
  have hE0 := hidden (X0.trans X3)
  have hX0I := hidden X0
  have s1I := hidden s1
  clear B0 ra hA2 hw1 X0 s1
  go_enter Tryz.func32, Tryz.ntmps32
  go_upto_region 1 with fail
  rw [hw1I.out]
  clear hw1I
  go_upto_region 2 with fail
  obtain ⟨W, hW⟩ : ∃ W, (w1.alloc (.cells (madeCells #[.int .u32 0] 16) 42)).alloc (.cells #[.slice none 0 0, .slice (some ⟨w1.heap.size, 0, none⟩) 16 16] 29) = W := ⟨_, rfl⟩
  have hqW : w1.heap.size + 1 < W.heap.size := by rw [← hW]; exact hBp.lt
  rw [show (w1.alloc (.cells (madeCells #[.int .u32 0] 16) 42)).alloc (.cells ([.slice none 0 0, .slice (some ⟨w1.heap.size, 0, none⟩) 16 16] : List Value).toArray 29) = W from hW] at hBp
  rw [hW] at hres hOc hE0 ⊢
  clear hW X3 hmk
  have s1 := s1I.out
  obtain ⟨p, hp⟩ : ∃ p, w1.heap.size + 1 = p := ⟨_, rfl⟩
  obtain ⟨vx, hvx⟩ : ∃ v, Value.slice (some ⟨w1.heap.size, 0, none⟩) 16 16 = v := ⟨_, rfl⟩
  have hbx : ∀ x, vx.ownBlock = some x → x < p := fun x hx => by rw [← hvx] at hx; simp only [Value.ownBlock, Option.some.injEq] at hx; omega
  rw [hvx] at hOc hBp ⊢
  rw [hp] at hqW hBp ⊢
  have hpn2 : w.heap.size < p := by omega
  have hp2 : w.heap.size ≤ p := by omega
  have hrows : RowsL W w.heap.size p (memRows (.slice none 0 0) vx [] [] (List.replicate 16 0)) := by
    refine ⟨?_, ?_, hp2, hqW⟩
    · intro r hr
      simp only [memRows, List.zipWith_nil_left, List.append_nil, List.mem_cons, List.not_mem_nil, or_false] at hr
      rcases hr with rfl | rfl
      · exact World.ownsRow_nil _ _ _ _
      · exact hOc
    · simp only [memRows, List.zipWith_nil_left, List.append_nil, blks, arow, List.flatMap_cons, List.flatMap_nil]
      rw [show (Value.slice none 0 0).ownBlock = none from rfl]
      cases hq : vx.ownBlock with
      | none => simp
      | some x => have := hbx x hq; simp; omega
  replace hrows := hidden hrows
  replace hBp := hidden hBp
  have hvxI := hidden hvx
  clear hOc hvx hp hbx s1
  go_wp2_with fail
  go_loopw [4] (fun ix wr => ∃ k : Nat, k ≤ n ∧ ix = .int .i64 (k : Int) ∧ ∃ (al : Option Addr) (cl : Nat) (vs : List Value), Hid (RowsL wr w.heap.size p (memRows (.slice al k cl) vx vs ((zerosA A).take k) (List.replicate 16 0))) ∧ Hid (vs.length = k) ∧ Hid (Blk wr p 29 [.slice al k cl, vx]) ∧ Hid (Ext w wr) ∧ Hid (Blk wr w.heap.size 29 [.slice none 0 0, .slice none 0 0])) (fun ix _ => (n - intOf ix).toNat)
  case atStart => exact ⟨0, by omega, rfl, none, 0, [], hrows, hidden rfl, hBp, hE0, hres⟩
  case round =>
    obtain ⟨k, hk, rfl, al, cl, vs, hrows, hvl, hblk, hext, hres⟩ := hrel
    obtain ⟨W1, hWW⟩ : ∃ Z, Z = wr := ⟨_, rfl⟩
    subst hWW
    have hkw : IntKind.i64.wrap ((k : Int) + 1) = (k : Int) + 1 := IntWalk.i64_in _ (by omega)
    by_cases hlt : k < n
    · have hlt' : (k : Int) < (n : Int) := by omega
      obtain ⟨b, off, rfl, -, -⟩ := Rd.cells (cs := A.flatMap cA) (w := w) (sz := 2) (by have := raI.out; unfold Arr at this; rw [hn.out] at this; exact this) (show 0 < n by omega)
      obtain ⟨x, hak⟩ : ∃ x, A[k]? = some x := ⟨_, List.getElem?_eq_getElem (by rw [hn.out]; exact hlt)⟩
      obtain ⟨x0, x1⟩ := arr_get raI.out hn.out k x hak
      have hbI := hidden (cell_lt x0)
      have d1 := hext.out.cell x1
      obtain ⟨hx1, hx2⟩ := hA2I.out x (List.mem_of_getElem? hak)
      obtain ⟨xb, xs⟩ := x
      simp only at d1 hx1 hx2
      obtain ⟨s, rfl⟩ := Int.eq_ofNat_of_zero_le (show 0 ≤ xs by omega)
      have hs1 : s ≤ 65536 := by omega
      replace hak := hidden hak
      have hsz0 := hext.out.size
      have d0 := hblk.out.cell 0 _ rfl
      have hzl : (zerosA A).length = n := by rw [zerosA, List.length_map]; exact hn.out
      have hrow := hidden (show W1.ownsRow w.heap.size 27 1 (.slice al k cl) k vs by
        have := hrows.out.own _ (List.mem_of_getElem? (i := 0) rfl)
        unfold Row.own at this
        simp only [List.length_take] at this
        rw [show min k (zerosA A).length = k by rw [hzl]; omega] at this
        exact this)
      have hbase := hidden hext.out.size
      have hkn8 : k < 8 := by omega
      clear x0 x1
      go_upto_region 5 with fail
      refine wp_region_D (S := fun w' => w'.cell? ⟨p, 0, none⟩ = some (.slice al k cl) ∧ w'.cell? ⟨b, off + k * 2 + 1, none⟩ = some (.int .i64 (s : Int))) (D := [11]) (by kernel_rfl) ⟨d0, d1⟩ (fun HS => ?_)
      refine takeD 0 [1, 9, 10, 11] (.pointer (some ⟨p, 0, none⟩)) rfl rfl (by kernel_rfl) (by kernel_rfl) (by kernel_rfl) (by kernel_rfl) (by decide) (by decide) (fun _ _ _ h => h) (by rfl) (fun w' hw' => by go_simp) HS ?_
      try simp only [List.setIfInBounds_toArray, List.set_cons_zero, List.set_cons_succ]
      refine takeD 1 [9, 10, 11] (.slice al k cl) rfl rfl (by kernel_rfl) (by kernel_rfl) (by kernel_rfl) (by kernel_rfl) (by decide) (by decide) (fun _ _ _ h => h) (by rfl) (fun w' hw' => by obtain ⟨hw0, hw1⟩ := hw'; go_simp) HS ?_
      try simp only [List.setIfInBounds_toArray, List.set_cons_zero, List.set_cons_succ]
      refine takeD 2 [4, 5, 6, 7, 8, 9, 10, 11] (.slice (some ⟨b, off, none⟩) n ca) rfl rfl (by kernel_rfl) (by kernel_rfl) (by kernel_rfl) (by kernel_rfl) (by decide) (by decide) (fun _ _ _ h => h) (by rfl) (fun w' hw' => by go_simp) HS ?_
      try simp only [List.setIfInBounds_toArray, List.set_cons_zero, List.set_cons_succ]
      refine takeD 3 [4, 5, 6, 7, 8, 9, 10, 11] (.int .i64 (k : Int)) rfl rfl (by kernel_rfl) (by kernel_rfl) (by kernel_rfl) (by kernel_rfl) (by decide) (by decide) (fun _ _ _ h => h) (by rfl) (fun w' hw' => by go_simp) HS ?_
      try simp only [List.setIfInBounds_toArray, List.set_cons_zero, List.set_cons_succ]
      refine takeD 4 [5, 6, 7, 8, 9, 10, 11] (.pointer (some ⟨b, off + k * 2, none⟩)) rfl rfl (by kernel_rfl) (by kernel_rfl) (by kernel_rfl) (by kernel_rfl) (by decide) (by decide) (fun _ _ _ h => h) (by rfl) (fun w' hw' => by go_simp) HS ?_
      try simp only [List.setIfInBounds_toArray, List.set_cons_zero, List.set_cons_succ]
      refine takeD 5 [6, 7, 8, 9, 10, 11] (.pointer (some ⟨b, off + k * 2 + 1, none⟩)) rfl rfl (by kernel_rfl) (by kernel_rfl) (by kernel_rfl) (by kernel_rfl) (by decide) (by decide) (fun _ _ _ h => h) (by rfl) (fun w' hw' => by go_simp) HS ?_
      try simp only [List.setIfInBounds_toArray, List.set_cons_zero, List.set_cons_succ]
      refine takeD 6 [7, 8, 9, 10, 11] (.int .i64 (s : Int)) rfl rfl (by kernel_rfl) (by kernel_rfl) (by kernel_rfl) (by kernel_rfl) (by decide) (by decide) (fun _ _ _ h => h) (by rfl) (fun w' hw' => by obtain ⟨hw0, hw1⟩ := hw'; go_simp) HS ?_
      try simp only [List.setIfInBounds_toArray, List.set_cons_zero, List.set_cons_succ]
      have XA := hidden ((Ext.refl W1).drew.alloc (.cells (madeCells #[.int .u32 0] s) 42))
      have hmk := make32 W1.drew s hs1
      have e0 := XA.out.cell d0
      have e1 := XA.out.cell d1
      refine valueD 7 (.slice (some ⟨W1.heap.size, 0, none⟩) s s) rfl rfl (by kernel_rfl) (by rfl) (w' := (W1.drew.alloc (.cells (madeCells #[.int .u32 0] s) 42))) (by go_simp) (fun _ => ⟨e0, e1⟩) ?_
      try simp only [List.setIfInBounds_toArray, List.set_cons_zero, List.set_cons_succ]
      have hO2 := made_own W1 W1.drew (Ext.refl W1).drew s hs1
      obtain ⟨W2, hW2⟩ : ∃ W2, (W1.drew.alloc (.cells (madeCells #[.int .u32 0] s) 42)) = W2 := ⟨_, rfl⟩
      have hsz : W2.heap.size = W1.heap.size + 1 := by rw [← hW2]; exact Array.size_push ..
      rw [hW2] at XA e0 e1 hO2 ⊢
      clear hW2 hmk
      have HOa := hidden (own_ext hrow.out (XA.out.alloc (.cells #[.slice (some ⟨W1.heap.size, 0, none⟩) s s] 27)))
      have HN := hidden (rd_newc W2 [.slice (some ⟨W1.heap.size, 0, none⟩) s s] 27 1 1 rfl (by decide))
      have hpush := hidden (hrows.out.push (r := arow (.slice (some ⟨W1.heap.size, 0, none⟩) s s) (List.replicate s 0)) (XA.out.alloc (.cells #[.slice (some ⟨W1.heap.size, 0, none⟩) s s] 27)) (own_ext (own_mono hO2 hbase.out) ((Ext.refl W2).alloc _)) (fun x hx => (own_lt hO2 hx).1))
      have hBp := hidden (hblk.out.ext (XA.out.alloc (.cells #[.slice (some ⟨W1.heap.size, 0, none⟩) s s] 27)))
      have hRs := hidden (hres.out.ext (XA.out.alloc (.cells #[.slice (some ⟨W1.heap.size, 0, none⟩) s s] 27)))
      have g0 := ((Ext.refl W2).alloc (.cells #[.slice (some ⟨W1.heap.size, 0, none⟩) s s] 27)).cell e0
      have g1 := ((Ext.refl W2).alloc (.cells #[.slice (some ⟨W1.heap.size, 0, none⟩) s s] 27)).cell e1
      clear hO2
      refine valueD 8 (.slice (some ⟨W2.heap.size, 0, none⟩) 1 1) rfl rfl (by kernel_rfl) (by rfl) (w' := W2.alloc (.cells #[.slice (some ⟨W1.heap.size, 0, none⟩) s s] 27)) (by go_simp) (fun _ => ⟨g0, g1⟩) ?_
      try simp only [List.setIfInBounds_toArray, List.set_cons_zero, List.set_cons_succ]
      refine appendD 9 rfl rfl rfl (by kernel_rfl) _ _ 26 (by rfl) w.heap.size 27 i1 (.slice none 0 0) 1 24 Tryz.underlying26 hib.out hy0 hy1 hy2 rfl (by decide) (.slice al k cl) k vs (by rfl) HOa.out (some ⟨W2.heap.size, 0, none⟩) 1 1 [.slice (some ⟨W1.heap.size, 0, none⟩) s s] (by rfl) HN.out (by simp [Value.oneCell']) (by unfold maxLen; omega) (by omega) (by have := hbase.out; have := ((Ext.refl W2).alloc (.cells #[.slice (some ⟨W1.heap.size, 0, none⟩) s s] 27)).size; omega) (by omega) ?_
      intro v'' w4 hown4 hgrow4 hat4
      obtain ⟨a4, c4, rfl, k41, k42, -⟩ := own_shape hown4
      have c40 : Chg (Value.slice al k cl).ownBlock.toList (W2.alloc (.cells #[.slice (some ⟨W1.heap.size, 0, none⟩) s s] 27)) w4 := (Chg.refl _ _).grown hgrow4 (fun k hk => Or.inl (by simp [hk]))
      have hpq : p ∉ (Value.slice al k cl).ownBlock.toList := fun hm => (List.nodup_cons.1 hpush.out.nodup).1 (mem_blks.2 ⟨_, List.mem_of_getElem? (i := 0) rfl, by simpa using hm⟩)
      have hgq : b ∉ (Value.slice al k cl).ownBlock.toList := fun hm => by have h1 := (own_lt HOa.out (show (Value.slice al k cl).ownBlock = some b by simpa using hm)).1; have h2 := hbI.out; omega
      have f0 := c40.cell hpq g0
      have f1 := c40.cell hgq g1
      have hBp4 := hBp.out.chg c40 hpq
      have hfz := hBp4.frozen 0
      have hRs4 := hidden (hRs.out.chg c40 (fun hm => own_ne_blk HOa.out hRs.out (by decide) (by simpa using hm)))
      obtain ⟨hput, -⟩ := hpush.out.put (i := 0) (r' := ⟨27, 1, .slice a4 (k + 1) c4, k + 1, vs ++ [Value.slice (some ⟨W1.heap.size, 0, none⟩) s s]⟩) rfl c40 (fun x hx => Or.inr (Or.inl (by simpa using hx))) hown4 (fun x hx => by rcases hat4 with e | e <;> rw [e] at hx; exact Or.inl hx; simp only [Option.some.injEq] at hx; exact Or.inr (by rw [← hx]; exact Nat.le_refl _))
      have hX4 := hidden ((Chg.of_ext [] (hext.out.trans (XA.out.alloc (.cells #[.slice (some ⟨W1.heap.size, 0, none⟩) s s] 27)))).grown hgrow4 (fun k hk => Or.inr (own_lt HOa.out hk).1)).ext
      replace hput := hidden hput
      replace hBp4 := hidden hBp4
      clear hown4 hgrow4 hat4 HOa HN hpush hBp hRs
      refine ⟨fun _ => ⟨f0, f1⟩, ?_⟩
      try simp only [List.setIfInBounds_toArray, List.set_cons_zero, List.set_cons_succ]
      refine takeD 10 [11] (.pointer (some ⟨p, 0, none⟩)) rfl rfl (by kernel_rfl) (by kernel_rfl) (by kernel_rfl) (by kernel_rfl) (by decide) (by decide) (fun _ _ _ h => h) (by rfl) (fun w' hw' => by go_simp) ⟨f0, f1⟩ ?_
      try simp only [List.setIfInBounds_toArray, List.set_cons_zero, List.set_cons_succ]
      refine storeD 11 rfl rfl (by kernel_rfl) (by rfl) (w' := w4.setCell ⟨p, 0, none⟩ (.slice a4 (k + 1) c4)) (by go_simp) (fun h => absurd (by decide) h) ?_
      refine wpAnyD_done (by kernel_rfl) ?_ _
      show _
      have c50 : Chg [p] w4 (w4.setCell ⟨p, 0, none⟩ (.slice a4 (k + 1) c4)) := (Chg.refl _ _).setCell (Or.inl (by simp)) _
      have hRs5 := hidden (hRs4.out.chg c50 (fun hm => by rw [List.mem_singleton] at hm; omega))
      have hfin := hput.out.chg c50 (fun x hx hm => by rw [List.mem_singleton.1 hx] at hm; exact (List.nodup_cons.1 hput.out.nodup).1 hm)
      have hlk := hvl.out
      have hzk : (zerosA A)[k]? = some (List.replicate s 0) := by rw [zerosA, List.getElem?_map, hak.out]; simp
      have hzl : (zerosA A).length = n := by rw [zerosA, List.length_map]; exact hn.out
      rw [← memRows_snoc _ _ _ _ _ _ _ _ (by rw [List.length_take]; omega) k (by rw [List.length_take]; omega), ← take_snoc' hzk] at hfin
      replace hfin := hidden hfin
      have hB5 := hidden (hBp4.out.set 0 (.slice a4 (k + 1) c4))
      have hX5 := hidden (hX4.out.setCell (p := ⟨p, 0, none⟩) hp2 (.slice a4 (k + 1) c4))
      go_wp2_with fail
      go_roundw
      case rel => exact ⟨k + 1, by omega, by go_num, _, _, _, hfin, hidden (by simp [hlk]), hB5, hX5, hRs5⟩
      case measure => simp [intOf] <;> omega
    · obtain rfl : k = n := by omega
      have hlt' : ¬ ((k : Int) < (k : Int)) := by omega
      have d0 := hblk.out.cell 0 _ rfl
      have d1 := hblk.out.cell 1 _ rfl
      have e0 := hres.out.cell 0 _ rfl
      have e1 := hres.out.cell 1 _ rfl
      have f0 := hres.out.frozen 0
      have f1 := hres.out.frozen 1
      obtain ⟨av, cv, rfl⟩ : ∃ a c, vx = .slice a 16 c := ⟨_, _, hvxI.out.symm⟩
      go_wp2_with fail
      have c50 : Chg [w.heap.size] W1 ((W1.setCell ⟨w.heap.size, 0, none⟩ (.slice al k cl)).setCell ⟨w.heap.size, 1, none⟩ (.slice av 16 cv)) := ((Chg.refl _ _).setCell (Or.inl (by simp)) _).setCell (Or.inl (by simp)) _
      have hR := hrows.out.chg c50 (fun x hx hm => by
        rw [List.mem_singleton.1 hx] at hm
        obtain ⟨r, hr, hv⟩ := mem_blks.1 hm
        have ho := hrows.out.own r hr
        have ht : r.t = 27 ∨ r.t = 42 := by
          unfold memRows at hr
          rcases List.mem_append.1 hr with hr | hr
          · simp only [List.mem_cons, List.not_mem_nil, or_false] at hr
            rcases hr with rfl | rfl
            · exact Or.inl rfl
            · exact Or.inr rfl
          · obtain ⟨j, hj, e⟩ := List.getElem_of_mem hr
            rw [← e, List.getElem_zipWith]
            exact Or.inr rfl
        exact own_ne_blk ho hres.out (by rcases ht with e | e <;> rw [e] <;> decide) hv)
      have hzl : (zerosA A).length = k := by rw [zerosA, List.length_map]; exact hn.out
      rw [show (zerosA A).take k = zerosA A by rw [← hzl, List.take_length]] at hR
      have pz0 : World.cell? ((W1.setCell ⟨w.heap.size, 0, none⟩ (.slice al k cl)).setCell ⟨w.heap.size, 1, none⟩ (.slice av 16 cv)) ⟨w.heap.size, 0, none⟩ = some (.slice al k cl) := ((hres.out.set 0 (.slice al k cl)).set 1 (.slice av 16 cv)).cell 0 _ rfl
      have pz1 : World.cell? ((W1.setCell ⟨w.heap.size, 0, none⟩ (.slice al k cl)).setCell ⟨w.heap.size, 1, none⟩ (.slice av 16 cv)) ⟨w.heap.size, 1, none⟩ = some (.slice av 16 cv) := ((hres.out.set 0 (.slice al k cl)).set 1 (.slice av 16 cv)).cell 1 _ rfl
      refine bodyPost_ret (v := .agg #[.slice al k cl, .slice av 16 cv]) (by simp [results, Tryz.results32, go_sem, pz0, pz1]) rfl ?_
      exact ⟨_, _, rfl, memRows_own hR, (hext.out.setCell (p := ⟨w.heap.size, 0, none⟩) (Nat.le_refl _) _).setCell (p := ⟨w.heap.size, 1, none⟩) (Nat.le_refl _) _⟩
set_option maxHeartbeats 4000000 in
set_option maxRecDepth 100000 in
theorem rstart_any (va vc : Value) (A : List (Bool × Int)) (L : Int) (C : List (Int × Int)) (hA : OkA A) (hC : OkI C) (hL0 : -9223372036854775808 ≤ L) (hL1 : L ≤ 9223372036854775807) (w : World) (ra : Arr w va A) (rc : Cod w vc C) :
    Calls Tryz.prog 14 #[.agg #[va, .int .i64 L, vc]] w (StartP w A L C) := by
  have X0 := (Ext.refl w).alloc (.cells #[va, .int .i64 L, vc] 25)
  have X1 := X0.alloc (.cells #[.slice none 0 0, .slice none 0 0] 29)
  have P0 := (Blk.new w [va, .int .i64 L, vc] 25).alloc (.cells #[.slice none 0 0, .slice none 0 0] 29)
  have BR := blk_at1 (w.alloc (.cells #[va, .int .i64 L, vc] 25)) [.slice none 0 0, .slice none 0 0] 29 (w.heap.size + 1) (Array.size_push ..)
  have hcl := hidden (rform_any va vc A L C hA hC hL0 hL1 _ (Rd.ext ra X1) (Rd.ext rc X1))
  have hz := hidden (show ∀ x W, StartP w A L C x W = (if formE A L C = 0 then ∃ va vc, x = .returned (.tuple #[.agg #[va, vc], .int .i64 0]) ∧ MemO W w.heap.size va vc (zerosA A) (List.replicate 16 0) ∧ Ext w W else x = .returned (.tuple #[.agg #[.slice none 0 0, .slice none 0 0], .int .i64 (formE A L C)]) ∧ Ext w W) from fun x W => rfl)
  have hze := hidden (fun (h : formE A L C = 0) (W : World) (c : Ext w W) => rzero_any va A (formE_ok h).1 (formE_ok h).2.1 W (Rd.ext ra c))
  obtain ⟨aa, ca, rfl, hca, hca2, -⟩ := Rd.shape ra
  obtain ⟨ac, cc, rfl, -⟩ := Rd.shape rc
  generalize hS : StartP w A L C = SP at *
  generalize hn : A.length = n at *
  generalize hm : C.length = m at *
  generalize hf : formE A L C = fe at *
  have b0 := P0.cell 0 _ rfl
  have b1 := P0.cell 1 _ rfl
  have b2 := P0.cell 2 _ rfl
  have P0I := hidden P0
  have BRI := hidden BR
  have X1I := hidden X1
  clear ra rc hA hC hf hS hn hm P0 BR X0 X1
  go_enter Tryz.func14, Tryz.ntmps14
  go_wp2_with fail
  refine hcl.out.mono ?_
  rintro x w1 ⟨rfl, hX1⟩
  have P1 := P0I.out.ext hX1
  have R1 := BRI.out.ext hX1
  have hE1 := hidden (X1I.out.trans hX1)
  clear b0 b1 b2 hX1 hcl P0I BRI X1I
  have b0 := P1.cell 0 _ rfl
  have b1 := P1.cell 1 _ rfl
  have b2 := P1.cell 2 _ rfl
  by_cases h0 : fe = 0
  · subst h0
    have hzz := hidden (hze.out rfl w1 hE1.out)
    have R1I := hidden R1
    clear R1 P1
    go_wp2_with fail
    refine hzz.out.mono ?_
    rintro x w2 ⟨ma, mc, rfl, hM, hX2⟩
    obtain ⟨am, cm, ax, cx, rfl, rfl⟩ := hM.read.shape _ _ rfl rfl
    have R2 := R1I.out.ext hX2
    have e0 := R2.cell 0 _ rfl
    have e1 := R2.cell 1 _ rfl
    have f0 := R2.frozen 0
    have f1 := R2.frozen 1
    have R2I := hidden R2
    have hMI := hidden hM
    have hE2 := hidden (hE1.out.trans hX2)
    have hlt := R1I.out.lt
    replace hlt := hidden hlt
    have hs1 := hidden hE1.out.size
    clear R2 hM hX2 b0 b1 b2 hzz
    go_wp2_with fail
    have pz := (R2I.out.set 0 (.slice am (zerosA A).length cm)).set 1 (.slice ax (List.replicate 16 (0 : Int)).length cx)
    have pz0 := pz.cell 0 _ rfl
    have pz1 := pz.cell 1 _ rfl
    have c50 : Chg [w.heap.size + 1] w2 ((w2.setCell ⟨w.heap.size + 1, 0, none⟩ (.slice am (zerosA A).length cm)).setCell ⟨w.heap.size + 1, 1, none⟩ (.slice ax (List.replicate 16 (0 : Int)).length cx)) := ((Chg.refl _ _).setCell (Or.inl (by simp)) _).setCell (Or.inl (by simp)) _
    have hM2 := (hMI.out.chg c50 (fun x hx => by rw [List.mem_singleton.1 hx]; have := hlt.out; omega)).base hs1.out
    have hpost : SP (.returned (.tuple #[.agg #[.slice am (zerosA A).length cm, .slice ax (List.replicate 16 (0 : Int)).length cx], .int .i64 0])) ((w2.setCell ⟨w.heap.size + 1, 0, none⟩ (.slice am (zerosA A).length cm)).setCell ⟨w.heap.size + 1, 1, none⟩ (.slice ax (List.replicate 16 (0 : Int)).length cx)) := by
      rw [hz.out, if_pos trivial]
      exact ⟨_, _, rfl, hM2, (hE2.out.setCell (p := ⟨w.heap.size + 1, 0, none⟩) (Nat.le_succ _) _).setCell (p := ⟨w.heap.size + 1, 1, none⟩) (Nat.le_succ _) _⟩
    simp only [List.length_replicate] at pz0 pz1 hpost ⊢
    refine bodyPost_ret (by simp [results, Tryz.results14, go_sem, pz0, pz1]) rfl hpost
  · have h0' : (fe != 0) = true := by simpa using h0
    have f0 := R1.frozen 0
    have f1 := R1.frozen 1
    have e0 := R1.cell 0 _ rfl
    have e1 := R1.cell 1 _ rfl
    have R1I := hidden R1
    replace h0 := hidden h0
    clear R1 P1
    go_wp2_with fail
    have pz := (R1I.out.set 0 (.slice none 0 0)).set 1 (.slice none 0 0)
    have pz0 := pz.cell 0 _ rfl
    have pz1 := pz.cell 1 _ rfl
    have hpost : SP (.returned (.tuple #[.agg #[.slice none 0 0, .slice none 0 0], .int .i64 fe])) ((w1.setCell ⟨w.heap.size + 1, 0, none⟩ (.slice none 0 0)).setCell ⟨w.heap.size + 1, 1, none⟩ (.slice none 0 0)) := by
      rw [hz.out, if_neg h0.out]
      exact ⟨rfl, (hE1.out.setCell (p := ⟨w.heap.size + 1, 0, none⟩) (Nat.le_succ _) _).setCell (p := ⟨w.heap.size + 1, 1, none⟩) (Nat.le_succ _) _⟩
    refine bodyPost_ret (v := .tuple #[.agg #[.slice none 0 0, .slice none 0 0], .int .i64 fe]) (by simp [results, Tryz.results14, go_sem, pz0, pz1]) rfl hpost
end Go.Proofs.YtgjjklajipekdaaGreat
