
import Derived.Test.YtgjjklajipekdaaGreatYzn
import Derived.Test.YtgjjklajipekdaaGreatKc
import Derived.Test.YtgjjklajipekdaaGreatJf
import Derived.Test.YtgjjklajipekdaaGreatIg
namespace Go.Proofs.YtgjjklajipekdaaGreat
set_option maxHeartbeats 16000000
set_option maxRecDepth 100000
open Go.RowKit
set_option linter.unusedVariables false
set_option linter.unusedSimpArgs false
attribute [local go_sem ↓] Go.wp_at_zero Go.wp_at_succ
theorem rzero_any (va : Value) (A : List (Bool × Int)) (hA8 : A.length ≤ 8) (hA2 : ∀ x ∈ A, 1 ≤ x.2 ∧ x.2 ≤ 65536) (w : World) (ra : Arr w va A) :
  Calls Tryz.prog 32 #[va] w fun x w' => ∃ ma mc, x = .returned (.agg #[ma, mc]) ∧ MemO w' w.heap.size ma mc (zerosA A) (List.replicate 16 0) ∧ Ext w w' := by
 obtain ⟨i1, hi1, hy0, hy1, hy2⟩ := info_parts sl32_info
 have hib := hidden hi1
 have X0 := (Ext.refl w).alloc (.cells #[.slice none 0 0, .slice none 0 0] 29)
 have B0 := Blk.new w [.slice none 0 0, .slice none 0 0] 29
 obtain ⟨w1, hw1⟩ := ex (w.alloc (.cells #[.slice none 0 0, .slice none 0 0] 29))
 have s1 : w1.heap.size = w.heap.size + 1 := by rw [← hw1]; exact Array.size_push ..
 rw [show (w.alloc (.cells ([.slice none 0 0, .slice none 0 0] : List Value).toArray 29)) = w1 from hw1] at B0
 rw [hw1] at X0
 have hw1I := hidden hw1
 have raI := hidden ra
 obtain ⟨aa, ca, rfl, hca, hca2, -⟩ := Rd.shape ra
 generalize hn : A.length = n at *
 replace hn := hidden hn
 have hA2I := hidden hA2
 have hmk := make32 w1 16 (by omega)
 rw [show ((16 : Nat) : Int) = 16 by rfl] at hmk
 have X3 := ((Ext.refl w1).alloc (.cells (madeCells #[.int .u32 0] 16) 42)).alloc (.cells #[.slice none 0 0, .slice (some ⟨w1.heap.size, 0, none⟩) 16 16] 29)
 have hBp := blk_at1 (w1.alloc (.cells (madeCells #[.int .u32 0] 16) 42)) [.slice none 0 0, .slice (some ⟨w1.heap.size, 0, none⟩) 16 16] 29 (w1.heap.size + 1) (Array.size_push ..)
 have hres := hidden (B0.ext X3)
 have hOc := own_ext (made_own w w1 X0 16 (by omega)) ((Ext.refl (w1.alloc (.cells (madeCells #[.int .u32 0] 16) 42))).alloc (.cells #[.slice none 0 0, .slice (some ⟨w1.heap.size, 0, none⟩) 16 16] 29))
 have hE0 := hidden (X0.trans X3)
 have hX0I := hidden X0
 have s1I := hidden s1
 clear B0 ra hA2 hw1 X0 s1
 go_enter Tryz.func32, Tryz.ntmps32
 go_upto_region 1 with fail
 rw [hw1I.out]
 clear hw1I
 go_upto_region 2 with fail
 obtain ⟨W, hW⟩ := ex ((w1.alloc (.cells (madeCells #[.int .u32 0] 16) 42)).alloc (.cells #[.slice none 0 0, .slice (some ⟨w1.heap.size, 0, none⟩) 16 16] 29))
 have hqW : w1.heap.size + 1 < W.heap.size := by rw [← hW]; exact hBp.lt
 rw [show (w1.alloc (.cells (madeCells #[.int .u32 0] 16) 42)).alloc (.cells ([.slice none 0 0, .slice (some ⟨w1.heap.size, 0, none⟩) 16 16] : List Value).toArray 29) = W from hW] at hBp
 rw [hW] at hres hOc hE0 ⊢
 clear hW X3 hmk
 have s1 := s1I.out
 obtain ⟨p, hp⟩ := ex (w1.heap.size + 1)
 obtain ⟨vx, hvx⟩ := ex (Value.slice (some ⟨w1.heap.size, 0, none⟩) 16 16)
 have hbx : ∀ x, vx.ownBlock = some x → x < p := fun x hx => by rw [← hvx] at hx; simp only [Value.ownBlock, Option.some.injEq] at hx; omega
 rw [hvx] at hOc hBp ⊢
 rw [hp] at hqW hBp ⊢
 have hpn2 : w.heap.size < p := by omega
 have hp2 : w.heap.size ≤ p := by omega
 have hrows : RowsL W w.heap.size p (memRows (.slice none 0 0) vx [] [] (List.replicate 16 0)) := by
  refine ⟨?_, ?_, hp2, hqW⟩
  ·intro r hr
   simp only [memRows, List.zipWith_nil_left, List.append_nil, List.mem_cons, List.not_mem_nil, or_false] at hr
   rcases hr with rfl | rfl
   ·exact World.ownsRow_nil _ _ _ _
   ·exact hOc
  ·simp only [memRows, List.zipWith_nil_left, List.append_nil, blks, arow, List.flatMap_cons, List.flatMap_nil]
   rw [show (Value.slice none 0 0).ownBlock = none from rfl]
   cases hq : vx.ownBlock with
   | none => simp
   | some x => have := hbx x hq; simp; omega
 replace hrows := hidden hrows
 replace hBp := hidden hBp
 have hvxI := hidden hvx
 clear hOc hvx hp hbx s1
 go_wp2_with fail
 go_loopw [4] (fun ix wr => ∃ k : Nat, k ≤ n ∧ ix = .int .i64 (k : Int) ∧ ∃ (al : Option Addr) (cl : Nat) (vs : List Value), Hid (RowsL wr w.heap.size p (memRows (.slice al k cl) vx vs ((zerosA A).take k) (List.replicate 16 0))) ∧ Hid (vs.length = k) ∧ Hid (Blk wr p 29 [.slice al k cl, vx]) ∧ Hid (Ext w wr) ∧ Hid (Blk wr w.heap.size 29 [.slice none 0 0, .slice none 0 0])) (fun ix _ => (n - intOf ix).toNat)
 case atStart => exact ⟨0, by omega, rfl, none, 0, [], hrows, hidden rfl, hBp, hE0, hres⟩
 case round =>
  obtain ⟨k, hk, rfl, al, cl, vs, hrows, hvl, hblk, hext, hres⟩ := hrel
  obtain ⟨W1, hWW⟩ : ∃ Z, Z = wr := ⟨_, rfl⟩
  subst hWW
  have hkw : IntKind.i64.wrap ((k : Int) + 1) = (k : Int) + 1 := IntWalk.i64_in _ (by omega)
  by_cases hlt : k < n
  ·have hlt' : (k : Int) < (n : Int) := by omega
   obtain ⟨b, off, rfl, -, -⟩ := Rd.cells (cs := A.flatMap cA) (w := w) (sz := 2) (by have := raI.out; unfold Arr at this; rw [hn.out] at this; exact this) (show 0 < n by omega)
   obtain ⟨x, hak⟩ : ∃ x, A[k]? = some x := ⟨_, List.getElem?_eq_getElem (by rw [hn.out]; exact hlt)⟩
   obtain ⟨x0, x1⟩ := arr_get raI.out hn.out k x hak
   have hbI := hidden (cell_lt x0)
   have d1 := hext.out.cell x1
   obtain ⟨hx1, hx2⟩ := hA2I.out x (List.mem_of_getElem? hak)
   obtain ⟨xb, xs⟩ := x
   simp only at d1 hx1 hx2
   obtain ⟨s, rfl⟩ := Int.eq_ofNat_of_zero_le (show 0 ≤ xs by omega)
   have hs1 : s ≤ 65536 := by omega
   replace hak := hidden hak
   have hsz0 := hext.out.size
   have d0 := hblk.out.cell 0 _ rfl
   have hzl : (zerosA A).length = n := by rw [zerosA, List.length_map]; exact hn.out
   have hrow := hidden (show W1.ownsRow w.heap.size 27 1 (.slice al k cl) k vs by
    have := hrows.out.own _ (List.mem_of_getElem? (i := 0) rfl)
    unfold Row.own at this
    simp only [List.length_take] at this
    rw [show min k (zerosA A).length = k by rw [hzl]; omega] at this
    exact this)
   have hbase := hidden hext.out.size
   have hkn8 : k < 8 := by omega
   clear x0 x1
   go_upto_region 5 with fail
   refine wp_region_D (S := fun w' => w'.cell? ⟨p, 0, none⟩ = some (.slice al k cl) ∧ w'.cell? ⟨b, off + k * 2 + 1, none⟩ = some (.int .i64 (s : Int))) (D := [11]) (by kernel_rfl) ⟨d0, d1⟩ (fun HS => ?_)
   refine tk 0 [1, 9, 10, 11] (.pointer (some ⟨p, 0, none⟩)) HS ?_; try simp only [sx]
   refine tk 1 [9, 10, 11] (.slice al k cl) HS ?_; try simp only [sx]
   refine tk 2 [4, 5, 6, 7, 8, 9, 10, 11] (.slice (some ⟨b, off, none⟩) n ca) HS ?_; try simp only [sx]
   refine tk 3 [4, 5, 6, 7, 8, 9, 10, 11] (.int .i64 (k : Int)) HS ?_; try simp only [sx]
   refine tk 4 [5, 6, 7, 8, 9, 10, 11] (.pointer (some ⟨b, off + k * 2, none⟩)) HS ?_; try simp only [sx]
   refine tk 5 [6, 7, 8, 9, 10, 11] (.pointer (some ⟨b, off + k * 2 + 1, none⟩)) HS ?_; try simp only [sx]
   refine tk 6 [7, 8, 9, 10, 11] (.int .i64 (s : Int)) HS ?_; try simp only [sx]
   have XA := hidden ((Ext.refl W1).drew.alloc (.cells (madeCells #[.int .u32 0] s) 42))
   have hmk := make32 W1.drew s hs1
   have e0 := XA.out.cell d0
   have e1 := XA.out.cell d1
   refine valueD 7 (.slice (some ⟨W1.heap.size, 0, none⟩) s s) rfl rfl (by kernel_rfl) (by rfl) (w' := (W1.drew.alloc (.cells (madeCells #[.int .u32 0] s) 42))) (by go_simp) (fun _ => ⟨e0, e1⟩) ?_; try simp only [sx]
   have hO2 := made_own W1 W1.drew (Ext.refl W1).drew s hs1
   obtain ⟨W2, hW2⟩ := ex ((W1.drew.alloc (.cells (madeCells #[.int .u32 0] s) 42)))
   have hsz : W2.heap.size = W1.heap.size + 1 := by rw [← hW2]; exact Array.size_push ..
   rw [hW2] at XA e0 e1 hO2 ⊢
   clear hW2 hmk
   have HOa := hidden (own_ext hrow.out (XA.out.alloc (.cells #[.slice (some ⟨W1.heap.size, 0, none⟩) s s] 27)))
   have HN := hidden (rd_newc W2 [.slice (some ⟨W1.heap.size, 0, none⟩) s s] 27 1 1 rfl (by decide))
   have hpush := hidden (hrows.out.push (r := arow (.slice (some ⟨W1.heap.size, 0, none⟩) s s) (List.replicate s 0)) (XA.out.alloc (.cells #[.slice (some ⟨W1.heap.size, 0, none⟩) s s] 27)) (own_ext (own_mono hO2 hbase.out) ((Ext.refl W2).alloc _)) (fun x hx => (own_lt hO2 hx).1))
   have hBp := hidden (hblk.out.ext (XA.out.alloc (.cells #[.slice (some ⟨W1.heap.size, 0, none⟩) s s] 27)))
   have hRs := hidden (hres.out.ext (XA.out.alloc (.cells #[.slice (some ⟨W1.heap.size, 0, none⟩) s s] 27)))
   have g0 := ((Ext.refl W2).alloc (.cells #[.slice (some ⟨W1.heap.size, 0, none⟩) s s] 27)).cell e0
   have g1 := ((Ext.refl W2).alloc (.cells #[.slice (some ⟨W1.heap.size, 0, none⟩) s s] 27)).cell e1
   clear hO2
   refine valueD 8 (.slice (some ⟨W2.heap.size, 0, none⟩) 1 1) rfl rfl (by kernel_rfl) (by rfl) (w' := W2.alloc (.cells #[.slice (some ⟨W1.heap.size, 0, none⟩) s s] 27)) (by go_simp) (fun _ => ⟨g0, g1⟩) ?_; try simp only [sx]
   refine appendD 9 rfl rfl rfl (by kernel_rfl) _ _ 26 (by rfl) w.heap.size 27 i1 (.slice none 0 0) 1 24 Tryz.underlying26 hib.out hy0 hy1 hy2 rfl (by decide) (.slice al k cl) k vs (by rfl) HOa.out (some ⟨W2.heap.size, 0, none⟩) 1 1 [.slice (some ⟨W1.heap.size, 0, none⟩) s s] (by rfl) HN.out (by simp [Value.oneCell']) (by unfold maxLen; omega) (by omega) (by have := hbase.out; have := ((Ext.refl W2).alloc (.cells #[.slice (some ⟨W1.heap.size, 0, none⟩) s s] 27)).size; omega) (by omega) ?_
   intro v'' w4 hown4 hgrow4 hat4
   obtain ⟨a4, c4, rfl, k41, k42, -⟩ := own_shape hown4
   have c40 : Chg (Value.slice al k cl).ownBlock.toList (W2.alloc (.cells #[.slice (some ⟨W1.heap.size, 0, none⟩) s s] 27)) w4 := (Chg.refl _ _).grown hgrow4 (fun k hk => Or.inl (by simp [hk]))
   have hpq : p ∉ (Value.slice al k cl).ownBlock.toList := fun hm => (List.nodup_cons.1 hpush.out.nodup).1 (mem_blks.2 ⟨_, List.mem_of_getElem? (i := 0) rfl, by simpa using hm⟩)
   have hgq : b ∉ (Value.slice al k cl).ownBlock.toList := fun hm => by have h1 := (own_lt HOa.out (show (Value.slice al k cl).ownBlock = some b by simpa using hm)).1; have h2 := hbI.out; omega
   have f0 := c40.cell hpq g0
   have f1 := c40.cell hgq g1
   have hBp4 := hBp.out.chg c40 hpq
   have hfz := hBp4.frozen 0
   have hRs4 := hidden (hRs.out.chg c40 (fun hm => own_ne_blk HOa.out hRs.out (by decide) (by simpa using hm)))
   obtain ⟨hput, -⟩ := hpush.out.put (i := 0) (r' := ⟨27, 1, .slice a4 (k + 1) c4, k + 1, vs ++ [Value.slice (some ⟨W1.heap.size, 0, none⟩) s s]⟩) rfl c40 (fun x hx => Or.inr (Or.inl (by simpa using hx))) hown4 (fun x hx => by rcases hat4 with e | e <;> rw [e] at hx; exact Or.inl hx; simp only [Option.some.injEq] at hx; exact Or.inr (by rw [← hx]; exact Nat.le_refl _))
   have hX4 := hidden ((Chg.of_ext [] (hext.out.trans (XA.out.alloc (.cells #[.slice (some ⟨W1.heap.size, 0, none⟩) s s] 27)))).grown hgrow4 (fun k hk => Or.inr (own_lt HOa.out hk).1)).ext
   replace hput := hidden hput
   replace hBp4 := hidden hBp4
   clear hown4 hgrow4 hat4 HOa HN hpush hBp hRs
   refine ⟨fun _ => ⟨f0, f1⟩, ?_⟩; try simp only [sx]
   refine takeD 10 [11] (.pointer (some ⟨p, 0, none⟩)) rfl rfl (by kernel_rfl) (by kernel_rfl) (by kernel_rfl) (by kernel_rfl) (by decide) (by decide) (fun _ _ _ h => h) (by rfl) (fun w' hw' => by go_simp) ⟨f0, f1⟩ ?_; try simp only [sx]
   refine storeD 11 rfl rfl (by kernel_rfl) (by rfl) (w' := w4.setCell ⟨p, 0, none⟩ (.slice a4 (k + 1) c4)) (by go_simp) (fun h => absurd (by decide) h) ?_
   refine wpAnyD_done (by kernel_rfl) ?_ _
   show _
   have c50 : Chg [p] w4 (w4.setCell ⟨p, 0, none⟩ (.slice a4 (k + 1) c4)) := (Chg.refl _ _).setCell (Or.inl (by simp)) _
   have hRs5 := hidden (hRs4.out.chg c50 (fun hm => by rw [List.mem_singleton] at hm; omega))
   have hfin := hput.out.chg c50 (fun x hx hm => by rw [List.mem_singleton.1 hx] at hm; exact (List.nodup_cons.1 hput.out.nodup).1 hm)
   have hlk := hvl.out
   have hzk : (zerosA A)[k]? = some (List.replicate s 0) := by rw [zerosA, List.getElem?_map, hak.out]; simp
   have hzl : (zerosA A).length = n := by rw [zerosA, List.length_map]; exact hn.out
   rw [← memRows_snoc _ _ _ _ _ _ _ _ (by rw [List.length_take]; omega) k (by rw [List.length_take]; omega), ← take_snoc' hzk] at hfin
   replace hfin := hidden hfin
   have hB5 := hidden (hBp4.out.set 0 (.slice a4 (k + 1) c4))
   have hX5 := hidden (hX4.out.setCell (p := ⟨p, 0, none⟩) hp2 (.slice a4 (k + 1) c4))
   go_wp2_with fail
   go_roundw
   case rel => exact ⟨k + 1, by omega, by go_num, _, _, _, hfin, hidden (by simp [hlk]), hB5, hX5, hRs5⟩
   case measure => simp [intOf] <;> omega
  ·obtain rfl : k = n := by omega
   have hlt' : ¬ ((k : Int) < (k : Int)) := by omega
   obtain ⟨d0, d1⟩ := hblk.out.c2
   obtain ⟨e0, e1⟩ := hres.out.c2
   obtain ⟨f0, f1⟩ := hres.out.fz2
   obtain ⟨av, cv, rfl⟩ : ∃ a c, vx = .slice a 16 c := ⟨_, _, hvxI.out.symm⟩
   go_wp2_with fail
   have c50 : Chg [w.heap.size] W1 ((W1.setCell ⟨w.heap.size, 0, none⟩ (.slice al k cl)).setCell ⟨w.heap.size, 1, none⟩ (.slice av 16 cv)) := ((Chg.refl _ _).setCell (Or.inl (by simp)) _).setCell (Or.inl (by simp)) _
   have hR := hrows.out.chg c50 (fun x hx hm => by
    rw [List.mem_singleton.1 hx] at hm
    obtain ⟨r, hr, hv⟩ := mem_blks.1 hm
    have ho := hrows.out.own r hr
    have ht : r.t = 27 ∨ r.t = 42 := by
     unfold memRows at hr
     rcases List.mem_append.1 hr with hr | hr
     ·simp only [List.mem_cons, List.not_mem_nil, or_false] at hr
      rcases hr with rfl | rfl
      ·exact Or.inl rfl
      ·exact Or.inr rfl
     ·obtain ⟨j, hj, e⟩ := List.getElem_of_mem hr
      rw [← e, List.getElem_zipWith]
      exact Or.inr rfl
    exact own_ne_blk ho hres.out (by rcases ht with e | e <;> rw [e] <;> decide) hv)
   have hzl : (zerosA A).length = k := by rw [zerosA, List.length_map]; exact hn.out
   rw [show (zerosA A).take k = zerosA A by rw [← hzl, List.take_length]] at hR
   have pz0 : World.cell? ((W1.setCell ⟨w.heap.size, 0, none⟩ (.slice al k cl)).setCell ⟨w.heap.size, 1, none⟩ (.slice av 16 cv)) ⟨w.heap.size, 0, none⟩ = some (.slice al k cl) := ((hres.out.set 0 (.slice al k cl)).set 1 (.slice av 16 cv)).cell 0 _ rfl
   have pz1 : World.cell? ((W1.setCell ⟨w.heap.size, 0, none⟩ (.slice al k cl)).setCell ⟨w.heap.size, 1, none⟩ (.slice av 16 cv)) ⟨w.heap.size, 1, none⟩ = some (.slice av 16 cv) := ((hres.out.set 0 (.slice al k cl)).set 1 (.slice av 16 cv)).cell 1 _ rfl
   refine bodyPost_ret (v := .agg #[.slice al k cl, .slice av 16 cv]) (by simp [results, Tryz.results32, go_sem, pz0, pz1]) rfl ?_
   exact ⟨_, _, rfl, memRows_own hR, (hext.out.setCell (p := ⟨w.heap.size, 0, none⟩) (Nat.le_refl _) _).setCell (p := ⟨w.heap.size, 1, none⟩) (Nat.le_refl _) _⟩
theorem rstart_any (va vc : Value) (A : List (Bool × Int)) (L : Int) (C : List (Int × Int)) (hA : OkA A) (hC : OkI C) (hL0 : -9223372036854775808 ≤ L) (hL1 : L ≤ 9223372036854775807) (w : World) (ra : Arr w va A) (rc : Cod w vc C) :
  Calls Tryz.prog 14 #[.agg #[va, .int .i64 L, vc]] w (StartP w A L C) := by
 have X0 := (Ext.refl w).alloc (.cells #[va, .int .i64 L, vc] 25)
 have X1 := X0.alloc (.cells #[.slice none 0 0, .slice none 0 0] 29)
 have P0 := (Blk.new w [va, .int .i64 L, vc] 25).alloc (.cells #[.slice none 0 0, .slice none 0 0] 29)
 have BR := blk_at1 (w.alloc (.cells #[va, .int .i64 L, vc] 25)) [.slice none 0 0, .slice none 0 0] 29 (w.heap.size + 1) (Array.size_push ..)
 have hcl := hidden (rform_any va vc A L C hA hC hL0 hL1 _ (Rd.ext ra X1) (Rd.ext rc X1))
 have hz := hidden (show ∀ x W, StartP w A L C x W = (if formE A L C = 0 then ∃ va vc, x = .returned (.tuple #[.agg #[va, vc], .int .i64 0]) ∧ MemO W w.heap.size va vc (zerosA A) (List.replicate 16 0) ∧ Ext w W else x = .returned (.tuple #[.agg #[.slice none 0 0, .slice none 0 0], .int .i64 (formE A L C)]) ∧ Ext w W) from fun x W => rfl)
 have hze := hidden (fun (h : formE A L C = 0) (W : World) (c : Ext w W) => rzero_any va A (formE_ok h).1 (formE_ok h).2.1 W (Rd.ext ra c))
 obtain ⟨aa, ca, rfl, hca, hca2, -⟩ := Rd.shape ra
 obtain ⟨ac, cc, rfl, -⟩ := Rd.shape rc
 generalize hS : StartP w A L C = SP at *
 generalize hn : A.length = n at *
 generalize hm : C.length = m at *
 generalize hf : formE A L C = fe at *
 obtain ⟨b0, b1, b2⟩ := P0.c3
 have P0I := hidden P0
 have BRI := hidden BR
 have X1I := hidden X1
 clear ra rc hA hC hf hS hn hm P0 BR X0 X1
 go_enter Tryz.func14, Tryz.ntmps14
 go_wp2_with fail
 refine hcl.out.mono ?_
 rintro x w1 ⟨rfl, hX1⟩
 have P1 := P0I.out.ext hX1
 have R1 := BRI.out.ext hX1
 have hE1 := hidden (X1I.out.trans hX1)
 clear b0 b1 b2 hX1 hcl P0I BRI X1I
 obtain ⟨b0, b1, b2⟩ := P1.c3
 by_cases h0 : fe = 0
 ·subst h0
  have hzz := hidden (hze.out rfl w1 hE1.out)
  have R1I := hidden R1
  clear R1 P1
  go_wp2_with fail
  refine hzz.out.mono ?_
  rintro x w2 ⟨ma, mc, rfl, hM, hX2⟩
  obtain ⟨am, cm, ax, cx, rfl, rfl⟩ := hM.read.shape _ _ rfl rfl
  have R2 := R1I.out.ext hX2
  obtain ⟨e0, e1⟩ := R2.c2
  obtain ⟨f0, f1⟩ := R2.fz2
  have R2I := hidden R2
  have hMI := hidden hM
  have hE2 := hidden (hE1.out.trans hX2)
  have hlt := R1I.out.lt
  replace hlt := hidden hlt
  have hs1 := hidden hE1.out.size
  clear R2 hM hX2 b0 b1 b2 hzz
  go_wp2_with fail
  have pz := (R2I.out.set 0 (.slice am (zerosA A).length cm)).set 1 (.slice ax (List.replicate 16 (0 : Int)).length cx)
  obtain ⟨pz0, pz1⟩ := pz.c2
  have c50 : Chg [w.heap.size + 1] w2 ((w2.setCell ⟨w.heap.size + 1, 0, none⟩ (.slice am (zerosA A).length cm)).setCell ⟨w.heap.size + 1, 1, none⟩ (.slice ax (List.replicate 16 (0 : Int)).length cx)) := ((Chg.refl _ _).setCell (Or.inl (by simp)) _).setCell (Or.inl (by simp)) _
  have hM2 := (hMI.out.chg c50 (fun x hx => by rw [List.mem_singleton.1 hx]; have := hlt.out; omega)).base hs1.out
  have hpost : SP (.returned (.tuple #[.agg #[.slice am (zerosA A).length cm, .slice ax (List.replicate 16 (0 : Int)).length cx], .int .i64 0])) ((w2.setCell ⟨w.heap.size + 1, 0, none⟩ (.slice am (zerosA A).length cm)).setCell ⟨w.heap.size + 1, 1, none⟩ (.slice ax (List.replicate 16 (0 : Int)).length cx)) := by
   rw [hz.out, if_pos trivial]
   exact ⟨_, _, rfl, hM2, (hE2.out.setCell (p := ⟨w.heap.size + 1, 0, none⟩) (Nat.le_succ _) _).setCell (p := ⟨w.heap.size + 1, 1, none⟩) (Nat.le_succ _) _⟩
  simp only [List.length_replicate] at pz0 pz1 hpost ⊢
  refine bodyPost_ret (by simp [results, Tryz.results14, go_sem, pz0, pz1]) rfl hpost
 ·have h0' : (fe != 0) = true := by simpa using h0
  obtain ⟨f0, f1⟩ := R1.fz2
  obtain ⟨e0, e1⟩ := R1.c2
  have R1I := hidden R1
  replace h0 := hidden h0
  clear R1 P1
  go_wp2_with fail
  have pz := (R1I.out.set 0 (.slice none 0 0)).set 1 (.slice none 0 0)
  obtain ⟨pz0, pz1⟩ := pz.c2
  have hpost : SP (.returned (.tuple #[.agg #[.slice none 0 0, .slice none 0 0], .int .i64 fe])) ((w1.setCell ⟨w.heap.size + 1, 0, none⟩ (.slice none 0 0)).setCell ⟨w.heap.size + 1, 1, none⟩ (.slice none 0 0)) := by
   rw [hz.out, if_neg h0.out]
   exact ⟨rfl, (hE1.out.setCell (p := ⟨w.heap.size + 1, 0, none⟩) (Nat.le_succ _) _).setCell (p := ⟨w.heap.size + 1, 1, none⟩) (Nat.le_succ _) _⟩
  refine bodyPost_ret (v := .tuple #[.agg #[.slice none 0 0, .slice none 0 0], .int .i64 fe]) (by simp [results, Tryz.results14, go_sem, pz0, pz1]) rfl hpost
def vcR (v : Vl) : List Value := [.bool v.2, .int .u32 v.1]
def fcR (f : Frm) : List Value := [.int .i64 f.beg, .int .i64 f.base, .int .i64 f.left]
def mcR (V : Vs) (X : EV) (E : Env) (s : MS) : List Value := [X.a, .int .i64 E.L, X.c, X.p, .int .u32 E.inp, .bool E.ended, .int .i64 E.fuel, V.arr, V.cx, V.st, V.lo, V.fr, V.out, .int .i64 s.steps, .int .i64 s.pc]
def LR : Lay := ⟨89, 147, 145, 3, vcR, fcR, mcR⟩
def RP (w : World) (B q : Nat) (V : Vs) (X : EV) (E : Env) (r : Rs) (x : Ending) (w' : World) : Prop :=
 match r with
 | .stuck => False
 | .err e => x = .returned (.int .i64 e) ∧ Chg (SV q V) w w'
 | .go s' => x = .returned (.int .i64 0) ∧ ∃ V', MSt LR w' B q V' X E s' ∧ Chg (SV q V) w w' ∧ ToV w.heap.size q V V'
theorem rvalue_info : (Tryz.prog.info? 147).map (fun i => (i.zero, i.size, i.bytes)) = some (some (.agg #[.bool false, .int .u32 0]), 2, 8) := by kernel_rfl
theorem rframe_info : (Tryz.prog.info? 145).map (fun i => (i.zero, i.size, i.bytes)) = some (some (.agg #[.int .i64 0, .int .i64 0, .int .i64 0]), 3, 24) := by kernel_rfl
theorem rbase_any (w : World) (B q : Nat) (V : Vs) (X : EV) (E : Env) (s : MS) (h : MSt LR w B q V X E s) (hs : OkS E s) : Calls Tryz.prog 79 #[.pointer (some ⟨q, 0, none⟩)] w fun x w' => x = .returned (.int .i64 (baseF s.fr)) ∧ Ext w w' := by
 have hf := h.row 3 _ rfl
 have c11 := h.cell 11 _ rfl
 unfold Row.own at hf
 simp only at hf
 have h8 := hs.fr
 cases hl : s.fr.getLast? with
 | none =>
  have h0 : s.fr = [] := List.getLast?_eq_none_iff.1 hl
  have hb : baseF s.fr = 0 := by unfold baseF; rw [hl]
  rw [hb]
  rw [h0] at hf
  obtain ⟨a, cap, hv, hcap, hcap2, -⟩ := own_shape hf
  rw [hv] at c11
  simp only [List.length_nil] at c11 hcap
  clear hf h hs
  go_enter Tryz.func79, Tryz.ntmps79
  go_wp2_with fail
  go_ret
  exact ⟨rfl, Ext.refl _⟩
 | some f =>
  have hb : baseF s.fr = f.base := by unfold baseF; rw [hl]
  rw [hb]
  have hla := last_at hl
  obtain ⟨a, cap, hv, hcap, hcap2, hg⟩ := own_shape hf
  have hpos : 0 < s.fr.length := by
   rcases hn : s.fr with _ | ⟨x, l⟩
   ·rw [hn] at hl; cases hl
   ·simp
  obtain ⟨g, rfl, -, hgl⟩ := hg hpos
  have hc0 := own_cell (by rw [hv] at hf; exact hf) ((s.fr.length - 1) * 3 + 1) _ (flat_at (E := fcR) (fun _ => rfl) hla (j := 1) rfl)
  rw [hv] at c11
  obtain ⟨n, hn⟩ := ex s.fr.length
  rw [hn] at hc0 hcap c11 hpos h8
  obtain ⟨m, rfl⟩ : ∃ m, n = m + 1 := ⟨n - 1, by omega⟩
  simp only [Nat.add_sub_cancel, Nat.add_zero] at hc0
  have hw1 : IntKind.i64.wrap (((m + 1 : Nat) : Int) - 1) = (m : Int) := by rw [IntWalk.i64_in _ (by omega)]; omega
  have hne : ((m + 1 : Nat) : Int) = (m : Int) + 1 := by omega
  have hnz : (((m + 1 : Nat) : Int) == 0) = false := by simp; omega
  clear hf h hs hv hla hl hb
  replace hn := hidden hn
  go_enter Tryz.func79, Tryz.ntmps79
  go_wp2_with fail
  go_quiet (fail)
  all_goals go_wp2_with fail
  all_goals go_ret
  exact ⟨rfl, (Ext.refl w).drewN _⟩
theorem rstep_any (w : World) (B q : Nat) (V : Vs) (X : EV) (E : Env) (s : MS) (h : MSt LR w B q V X E s) (hs : OkS E s) (hE : OkE E) : Calls Tryz.prog 54 #[.pointer (some ⟨q, 0, none⟩)] w (RP w B q V X E (tickF E s)) := by
 have c13 := h.cell 13 _ rfl
 have c6 := h.cell 6 _ rfl
 have f13 := h.blk.frozen 13
 have hb := hs.s0
 have hb1 := hs.s1
 obtain ⟨fu, hfu⟩ := ex E.fuel
 obtain ⟨st, hst⟩ := ex s.steps
 rw [hst] at c13 hb hb1
 rw [hfu] at c6
 have hw1 : IntKind.i64.wrap (st + 1) = st + 1 := IntWalk.i64_in _ (by omega)
 have hI := hidden h
 by_cases hlt : st < fu
 ·have hR : Hid (tickF E s = .go { s with steps := st + 1 }) := by show _ = _; unfold tickF; rw [hst, hfu, if_pos hlt]
  have hdec : decide (fu ≤ st) = false := decide_eq_false (by omega)
  have hlt' : ¬ fu ≤ st := by omega
  replace hst := hidden hst
  replace hfu := hidden hfu
  clear h hs hE
  go_enter Tryz.func54, Tryz.ntmps54
  go_upto_region 1 with fail
  go_quiet (fail)
  all_goals go_wp2_with fail
  all_goals go_ret
  show RP _ _ _ _ _ _ (tickF E s) _ _
  rw [hR.out]
  obtain ⟨hM1, hM2⟩ := (hI.out.ext ((Ext.refl w).drewN _)).cellq 13 (.int .i64 (st + 1)) (s' := { s with steps := st + 1 }) rfl rfl rfl
  exact ⟨rfl, V, hM1, (Chg.refl (SV q V) w).drewN _ |>.trans hM2 (fun x hx => Or.inl hx), ToV.refl _ _ _⟩
 ·have hR : Hid (tickF E s = .err 19) := by show _ = _; unfold tickF; rw [hst, hfu, if_neg hlt]
  have hdec : decide (fu ≤ st) = true := decide_eq_true (by omega)
  have hlt' : fu ≤ st := by omega
  replace hst := hidden hst
  replace hfu := hidden hfu
  clear h hs hE
  go_enter Tryz.func54, Tryz.ntmps54
  go_upto_region 1 with fail
  go_quiet (fail)
  all_goals go_wp2_with fail
  all_goals go_ret
  show RP _ _ _ _ _ _ (tickF E s) _ _
  rw [hR.out]
  exact ⟨rfl, (Chg.refl _ w).drewN _⟩
theorem rexists_any (op arg : Int) (ha0 : 0 ≤ arg) (ha1 : arg ≤ 4294967295) (w : World) (B q : Nat) (V : Vs) (X : EV) (E : Env) (s : MS) (h : MSt LR w B q V X E s) (hE : OkE E) : Calls Tryz.prog 55 #[.pointer (some ⟨q, 0, none⟩), .agg #[.int .i64 op, .int .u32 arg]] w fun x w' => x = .returned (.bool (exiF E op arg)) ∧ Ext w w' := by
 have c0 := h.cell 0 _ rfl
 have c1 := h.cell 1 _ rfl
 have hA := h.env.a
 obtain ⟨aa, ca, hva, hca, hca2, -⟩ := Rd.shape hA
 rw [hva] at c0
 have hL0 := hE.L0
 have hL1 := hE.L1
 have hA8 := hE.A8
 obtain ⟨n, hn⟩ := ex E.A.length
 obtain ⟨L, hL⟩ := ex E.L
 rw [hn] at c0 hA8
 rw [hL] at c1 hL0 hL1
 have haw : IntKind.i64.wrap arg = arg := IntWalk.i64_in _ (by omega)
 have XB := (Ext.refl w).alloc (.cells #[.int .i64 op, .int .u32 arg] 63)
 have c0' := XB.cell c0
 have c1' := XB.cell c1
 have hX : Hid (exiF E op arg = if op = 1 ∨ op = 2 then decide (arg < L) else if op = 3 ∨ op = 4 then decide (arg < (n : Int)) else true) := by show _ = _; unfold exiF; rw [hL, hn]
 replace hn := hidden hn
 replace hL := hidden hL
 clear h hE hA hva c0 c1
 by_cases h1 : op = 1
 ·subst h1
  rw [hX.out, if_pos (Or.inl rfl)]
  go_enter Tryz.func55, Tryz.ntmps55
  go_wp2_with fail
  go_quiet (fail)
  all_goals go_wp2_with fail
  all_goals go_ret
  exact ⟨rfl, XB.drewN _⟩
 ·have e1 : (op == 1) = false := by simpa using h1
  by_cases h2 : op = 2
  ·subst h2
   rw [hX.out, if_pos (Or.inr rfl)]
   go_enter Tryz.func55, Tryz.ntmps55
   go_wp2_with fail
   go_quiet (fail)
   all_goals go_wp2_with fail
   all_goals go_ret
   exact ⟨rfl, XB.drewN _⟩
  ·have e2 : (op == 2) = false := by simpa using h2
   by_cases h3 : op = 3
   ·subst h3
    rw [hX.out, if_neg (by decide), if_pos (Or.inl rfl)]
    go_enter Tryz.func55, Tryz.ntmps55
    go_wp2_with fail
    go_quiet (fail)
    all_goals go_wp2_with fail
    all_goals go_ret
    exact ⟨rfl, XB.drewN _⟩
   ·have e3 : (op == 3) = false := by simpa using h3
    by_cases h4 : op = 4
    ·subst h4
     rw [hX.out, if_neg (by decide), if_pos (Or.inr rfl)]
     go_enter Tryz.func55, Tryz.ntmps55
     go_wp2_with fail
     go_quiet (fail)
     all_goals go_wp2_with fail
     all_goals go_ret
     exact ⟨rfl, XB.drewN _⟩
    ·have e4 : (op == 4) = false := by simpa using h4
     have hR : exiF E op arg = true := by rw [hX.out, if_neg (by omega), if_neg (by omega)]
     rw [hR]
     clear h1 h2 h3 h4 hR
     go_enter Tryz.func55, Tryz.ntmps55
     go_wp2_with fail
     go_ret
     exact ⟨rfl, XB⟩
theorem rnumber_any (n : Int) (w : World) : Calls Tryz.prog 81 #[.int .u32 n] w fun x w' => ∃ v, x = .returned v ∧ w'.ownsRow w.heap.size 147 2 v 1 (vcR (n, false)) ∧ Ext w w' := by
 go_enter Tryz.func81, Tryz.ntmps81
 go_wp2_with fail
 go_ret
 exact ⟨_, rfl, World.ownsRow_lit (base := w.heap.size) (e := 147) (size := 2) w #[.bool false, .int .u32 n] 1 (Nat.le_refl _) (by decide) rfl, (Ext.refl w).alloc _⟩
theorem MSt.newRow {Y : Lay} {w w1 : World} {B q : Nat} {V V' : Vs} {X : EV} {E : Env} {s s' : MS} {i j : Nat} {r r' : Row} (h : MSt Y w B q V X E s) (hi : (rowsG Y V s)[i]? = some r) (c : Ext w w1) (ho : r'.own w1 B) (hb : ∀ x, r'.v.ownBlock = some x → w.heap.size ≤ x)
  (hV : rowsG Y V' s' = (rowsG Y V s).set i r') (hl : V'.ars.length = s'.ar.length) (hm : Y.mc V' X E s' = (Y.mc V X E s).set j r'.v) :
  MSt Y (w1.setCell ⟨q, j, none⟩ r'.v) B q V' X E s' ∧ Chg (SV q V) w (w1.setCell ⟨q, j, none⟩ r'.v) ∧ ToV w.heap.size q V V' :=
 h.setRow hi (Chg.of_ext [] c) (by simp) ho (fun x hx => Or.inr (hb x hx)) hV hl hm
theorem vcR_one (l : List Vl) : ∀ u ∈ l.flatMap vcR, u.oneCell' = true := by
 intro u hu
 obtain ⟨v, -, hv⟩ := List.mem_flatMap.1 hu
 simp only [vcR, List.mem_cons, List.not_mem_nil, or_false] at hv
 rcases hv with rfl | rfl <;> rfl
theorem fcR_one (l : List Frm) : ∀ u ∈ l.flatMap fcR, u.oneCell' = true := by
 intro u hu
 obtain ⟨v, -, hv⟩ := List.mem_flatMap.1 hu
 simp only [fcR, List.mem_cons, List.not_mem_nil, or_false] at hv
 rcases hv with rfl | rfl | rfl <;> rfl
theorem rpush_any (w : World) (B q : Nat) (V : Vs) (X : EV) (E : Env) (s : MS) (h : MSt LR w B q V X E s) (hB : B ≤ w.heap.size) (hs : OkS E s) (l : List Vl) (hl2 : l.length ≤ 2) (vl : Value) (hl : Rd w 2 vl l.length (l.flatMap vcR)) :
  Calls Tryz.prog 59 #[.pointer (some ⟨q, 0, none⟩), vl] w (RP w B q V X E (pushF l s)) := by
 obtain ⟨i0, hi, hz0, hz1, hz2⟩ := info_parts rvalue_info
 obtain ⟨av, cv, rfl, hcv, hcv2, -⟩ := Rd.shape hl
 have hrow := h.row 2 _ rfl
 unfold Row.own at hrow
 simp only at hrow
 have c9 := h.cell 9 _ rfl
 have h32 := hs.st
 obtain ⟨a0, cc0, hv0, -⟩ := own_shape hrow
 obtain ⟨n, hn⟩ := ex s.st.length
 obtain ⟨m, hm⟩ := ex l.length
 have X1 := (Ext.refl w).alloc (.cells #[] 147)
 have hR0 := hidden (show Rd (w.alloc (.cells #[] 147)) 2 (.slice a0 n cc0) n (s.st.flatMap vcR) by have := Rd.ext (Rd.of_own hrow) X1; rw [hv0, hn] at this; exact this)
 have hO0 := hidden (own_zero w 147 2)
 have hl0 := hidden (show Rd w 2 (.slice av m cv) m (l.flatMap vcR) by rw [← hm]; exact hl)
 have hR : Hid (pushF l s = if 32 < n + m then .err 14 else .go { s with st := s.st ++ l }) := by show _ = _; unfold pushF; rw [List.length_append, hn, hm]
 have hI := hidden h
 rw [hv0, hn] at c9
 have c9' := X1.cell c9
 have f9' := (h.blk.ext X1).frozen 9
 rw [hn] at h32
 rw [hm] at hl2 hcv ⊢
 replace hia := hidden hi
 replace hn := hidden hn
 replace hm := hidden hm
 have X1I := hidden X1
 clear h hs hi hrow hl hv0 X1
 go_enter Tryz.func59, Tryz.ntmps59
 go_upto_region 2 with (at_builtin; first
  | (refine wpList_append_rd (by rfl) _ _ 86 (by rfl) w.heap.size 147 i0 (.agg #[.bool false, .int .u32 0]) 2 8 Tryz.underlying86 hia.out hz0 hz1 hz2 rfl (by decide) (.slice a4 n c4) n (s.st.flatMap vcR) (by rfl) hO4.out av m cv (l.flatMap vcR) (by rfl) (Rd.ext hl0.out hX4.out) (vcR_one l) (by unfold maxLen; omega) (by omega) (by have := hX4.out.size; omega) ?_; intro v' w5 hown5 hgrow5 hat5; obtain ⟨a5, c5, rfl, -⟩ := own_shape hown5; have hX5 := hidden ((Chg.of_ext [] hX4.out).grown hgrow5 (fun k hk => Or.inr (own_lt hO4.out hk).1)).ext; have hO5 := hidden hown5; have k9 := hX5.out.cell c9; have kf := (hI.out.blk.ext hX5.out).frozen 9; clear hown5 hgrow5 hat5)
  | (refine wpList_append_rd (by rfl) _ _ 86 (by rfl) w.heap.size 147 i0 (.agg #[.bool false, .int .u32 0]) 2 8 Tryz.underlying86 hia.out hz0 hz1 hz2 rfl (by decide) (.slice (some ⟨w.heap.size, 0, none⟩) 0 0) 0 [] (by rfl) hO0.out a0 n cc0 (s.st.flatMap vcR) (by rfl) hR0.out (vcR_one s.st) (by unfold maxLen; omega) (by omega) (by simp) ?_; intro v' w4 hown4 hgrow4 hat4; rw [Nat.zero_add, List.nil_append] at hown4; obtain ⟨a4, c4, rfl, -⟩ := own_shape hown4; have hX4 := hidden ((Chg.of_ext [] X1I.out).grown hgrow4 (fun k hk => Or.inr (own_lt hO0.out hk).1)).ext; have hO4 := hidden hown4; clear hown4 hgrow4 hat4))
 obtain ⟨m1, m2, m3⟩ := hI.out.newRow (i := 2) (j := 9) (r' := ⟨147, 2, .slice a5 (n + m) c5, (s.st ++ l).length, (s.st ++ l).flatMap vcR⟩) (V' := { V with st := .slice a5 (n + m) c5 }) (s' := { s with st := s.st ++ l }) rfl hX5.out (by unfold Row.own; simp only [List.length_append, List.flatMap_append]; rw [hn.out, hm.out]; exact own_mono hO5.out hB) (fun x hx => (own_lt hO5.out hx).1) rfl hI.out.al rfl
 simp only at m1 m2
 obtain ⟨W4, hW4⟩ := ex (w5.setCell ⟨q, 9, none⟩ (.slice a5 (n + m) c5))
 rw [hW4] at m1 m2 ⊢
 have k10 := m1.cell 9 _ rfl
 replace m1 := hidden m1
 replace m2 := hidden m2
 replace m3 := hidden m3
 clear hW4 c9 c9' f9' k9 kf hX5 hO5 hX4 hO4
 by_cases hlt : 32 < n + m
 ·have hdec : (32 : Int) < (n : Int) + (m : Int) := by omega
  go_wp2_with fail
  go_ret
  show RP _ _ _ _ _ _ (pushF l s) _ _
  rw [hR.out, if_pos hlt]
  exact ⟨rfl, m2.out⟩
 ·have hdec : ¬ (32 : Int) < (n : Int) + (m : Int) := by omega
  go_wp2_with fail
  go_ret
  show RP _ _ _ _ _ _ (pushF l s) _ _
  rw [hR.out, if_neg hlt]
  exact ⟨rfl, _, m1.out, m2.out, m3.out⟩
theorem rquit_any (w : World) (B q : Nat) (V : Vs) (X : EV) (E : Env) (s : MS) (h : MSt LR w B q V X E s) (hB : B ≤ w.heap.size) (hs : OkS E s) (hne : s.fr ≠ []) :
  Calls Tryz.prog 77 #[.pointer (some ⟨q, 0, none⟩)] w fun x w' => x = .returned (.tuple #[]) ∧ ∃ V', MSt LR w' B q V' X E { s with fr := s.fr.dropLast } ∧ Chg (SV q V) w w' ∧ ToV w.heap.size q V V' := by
 obtain ⟨i0, hi, hz0, hz1, hz2⟩ := info_parts rframe_info
 have hrow := h.row 3 _ rfl
 unfold Row.own at hrow
 simp only at hrow
 have c11 := h.cell 11 _ rfl
 have h8 := hs.fr
 obtain ⟨a0, cc0, hv0, hcc, -⟩ := own_shape hrow
 obtain ⟨m, hm⟩ : ∃ m, s.fr.length = m + 1 := ⟨s.fr.length - 1, by have := List.length_pos_iff.2 hne; omega⟩
 have hdl : s.fr.dropLast.length = m := by rw [List.length_dropLast, hm]; rfl
 have hRd := hidden (show Rd w 3 (.slice a0 m cc0) m (s.fr.dropLast.flatMap fcR) by
  have h1 := Rd.of_own (own_cut (by rw [hv0] at hrow; exact hrow) (show m ≤ s.fr.length by omega))
  have h2 : (s.fr.flatMap fcR).take (m * 3) = s.fr.dropLast.flatMap fcR := by rw [flat_take (sz := 3) (E := fcR) (fun _ => rfl), List.dropLast_eq_take, hm]; rfl
  have h3 : (s.fr.flatMap LR.fc).take (m * 3) = s.fr.dropLast.flatMap fcR := h2
  change Rd w 3 (.slice a0 m cc0) m ((s.fr.flatMap LR.fc).take (m * 3)) at h1
  rw [h3] at h1
  exact h1)
 have hcut := cut_own (P := Tryz.prog) Tryz.underlying87 (sz := 3) (fun w => by simp [go_sem, hi, hz1]) (m + 1) cc0 m a0 (m : Int) rfl (by omega) (by omega)
 have hmw : IntKind.i64.wrap (((m + 1 : Nat) : Int) - 1) = (m : Int) := by rw [IntWalk.i64_in _ (by omega)]; omega
 have hmw2 : IntKind.i64.wrap (m : Int) = (m : Int) := IntWalk.i64_in _ (by omega)
 rw [hv0, hm] at c11
 rw [hm] at h8 hcc
 have hI := hidden h
 have hia := hidden hi
 replace hdl := hidden hdl
 replace hm := hidden hm
 clear h hs hi hrow hv0 hne
 go_enter Tryz.func77, Tryz.ntmps77
 go_upto_region 0 with fail
 refine wp_region_D (S := fun w' => w'.cell? ⟨q, 11, none⟩ = some (.slice a0 (m + 1) cc0)) (D := [16]) (by kernel_rfl) c11 (fun HS => ?_)
 refine tk 0 [14, 15, 16] (.pointer (some ⟨q, 0, none⟩)) HS ?_; try simp only [sx]
 refine tk 2 [3, 4, 5, 12, 13, 14, 15, 16] (.pointer (some ⟨q, 0, none⟩)) HS ?_; try simp only [sx]
 refine tk 3 [4, 5, 12, 13, 14, 15, 16] (.pointer (some ⟨q, 0, none⟩)) HS ?_; try simp only [sx]
 refine tk 4 [5, 12, 13, 14, 15, 16] (.pointer (some ⟨q, 11, none⟩)) HS ?_; try simp only [sx]
 refine tk 5 [12, 13, 14, 15, 16] (.slice a0 (m + 1) cc0) HS ?_; try simp only [sx]
 refine tk 6 [7, 8, 9, 10, 11, 12, 13, 14, 15, 16] (.pointer (some ⟨q, 0, none⟩)) HS ?_; try simp only [sx]
 refine tk 7 [8, 9, 10, 11, 12, 13, 14, 15, 16] (.pointer (some ⟨q, 0, none⟩)) HS ?_; try simp only [sx]
 refine tk 8 [9, 10, 11, 12, 13, 14, 15, 16] (.pointer (some ⟨q, 11, none⟩)) HS ?_; try simp only [sx]
 refine tk 9 [10, 11, 12, 13, 14, 15, 16] (.slice a0 (m + 1) cc0) HS ?_; try simp only [sx]
 refine tk 10 [11, 12, 13, 14, 15, 16] (.int .i64 ((m + 1 : Nat) : Int)) HS ?_; try simp only [sx]
 refine tk 11 [12, 13, 14, 15, 16] (.int .i64 (m : Int)) HS ?_; try simp only [sx]
 refine tk 12 [13, 14, 15, 16] (.slice a0 m cc0) HS ?_; try simp only [sx]
 have X1 := hidden ((Ext.refl w).drew.alloc (.cells #[] 145))
 have e1 := X1.out.cell c11
 refine valueD 1 (.slice (some ⟨w.heap.size, 0, none⟩) 0 0) rfl rfl (by kernel_rfl) (by rfl) (w' := w.drew.alloc (.cells #[] 145)) (by go_simp) (fun _ => e1) ?_; try simp only [sx]
 have hO0 := hidden (own_zero w.drew 145 3)
 refine appendD0 13 rfl rfl rfl (by kernel_rfl) _ _ 87 (by rfl) w.heap.size 145 i0 (.agg #[.int .i64 0, .int .i64 0, .int .i64 0]) 3 24 Tryz.underlying87 hia.out hz0 hz1 hz2 rfl (by decide) (.slice (some ⟨w.heap.size, 0, none⟩) 0 0) 0 [] (by rfl) hO0.out a0 m cc0 (s.fr.dropLast.flatMap fcR) (by rfl) (Rd.ext hRd.out X1.out) (fcR_one _) (by unfold maxLen; omega) (by omega) (by have := X1.out.size; omega) ?_
 intro v'' w4 hown4 hgrow4 hat4
 rw [Nat.zero_add, List.nil_append] at hown4
 obtain ⟨a4, c4, rfl, -⟩ := own_shape hown4
 have hX4 := hidden ((Chg.of_ext [] X1.out).grown hgrow4 (fun k hk => Or.inr (own_lt hO0.out hk).1)).ext
 have e4 := hX4.out.cell c11
 have f4 := (hI.out.blk.ext hX4.out).frozen 11
 refine ⟨fun _ => e4, ?_⟩; try simp only [sx]
 refine tk 14 [15, 16] (.pointer (some ⟨q, 0, none⟩)) e4 ?_; try simp only [sx]
 refine tk 15 [16] (.pointer (some ⟨q, 11, none⟩)) e4 ?_; try simp only [sx]
 refine storeD 16 rfl rfl (by kernel_rfl) (by rfl) (w' := w4.setCell ⟨q, 11, none⟩ (.slice a4 m c4)) (by go_simp) (fun h => absurd (by decide) h) ?_
 refine wpAnyD_done (by kernel_rfl) ?_ _
 show _
 obtain ⟨m1, m2, m3⟩ := hI.out.newRow (i := 3) (j := 11) (r' := ⟨145, 3, .slice a4 m c4, s.fr.dropLast.length, s.fr.dropLast.flatMap fcR⟩) (V' := { V with fr := .slice a4 m c4 }) (s' := { s with fr := s.fr.dropLast }) rfl hX4.out (by unfold Row.own; simp only; rw [hdl.out]; exact own_mono hown4 hB) (fun x hx => (own_lt hown4 hx).1) rfl hI.out.al rfl
 simp only at m1 m2
 go_wp2_with fail
 go_end0
 exact ⟨rfl, _, m1, m2, m3⟩
theorem valueV {P : Program} {md : Region.Mode} {ops : Array Oper} {Q : Exit → Act → World → Prop} {S : World → Prop} {D : List Nat} (i : Nat) (v : Value) {oi : Oper} {d : Tmp} {fuel : Nat} {listed : Array Bool} {a : Act} {w w' : World} (hi : ops[i]? = some oi) (hd : oi.dst = some d)
  (hw : Region.wanted oi (yielded ops a.tmps) = true) (hrun : (execOp a.eval oi).run P w = .ok (.value v) w') (hS : i ∉ D → S w')
  (h : wpAnyD P md ops Q S D fuel (listed.setIfInBounds i true) { a with tmps := a.tmps.setIfInBounds d v } w') : wpOp P ops Q i (fun a' w' => (i ∉ D → S w') ∧ wpAnyD P md ops Q S D fuel (listed.setIfInBounds i true) a' w') a w := by
 unfold wpOp
 simp only [hi, hw, if_true]
 left
 unfold Oper.wp
 rw [hrun]
 show (i ∉ D → S w') ∧ wpAnyD P md ops Q S D fuel _ (a.put oi.dst v) w'
 rw [hd]
 exact ⟨hS, h⟩
theorem appendV0 {P : Program} {md : Region.Mode} {ops : Array Oper} {Q : Exit → Act → World → Prop} {S : World → Prop} {D : List Nat} {fuel : Nat} {listed : Array Bool} (i : Nat) {oi : Oper} {dd : Tmp} {a : Act} {w : World} (hii : ops[i]? = some oi) (hd : oi.dst = some dd) (gi : oi.guard = none)
  (s x : Operand) (t : TypeId)
  (ho : oi.op = .call { callee := .builtin .append, args := #[s, x], argTypes := #[t, t] })
  (base : Nat) (e : TypeId) (i1 : TypeInfo) (z : Value) (size bytes : Nat) (ht : P.underlying t = some (.slice e)) (hi : P.info? e = some i1) (hz : i1.zero = some z)
  (hsize : i1.size = size) (hby : i1.bytes = bytes) (hzs : z.cells.size = size) (hsz : 0 < size)
  (v : Value) (n : Nat) (xs : List Value) (hs : a.eval s = v) (hown : w.ownsRow base e size v n xs)
  (y : Option Addr) (m c : Nat) (news : List Value) (hx : a.eval x = .slice y m c) (hr : Rd w size (.slice y m c) m news) (h1 : ∀ u ∈ news, u.oneCell' = true)
  (h63 : n + m ≤ maxLen) (hbytes : (n + m) * bytes ≤ 140737488355328) (hbase : base ≤ w.heap.size)
  (h : ∀ v' w', w'.ownsRow base e size v' (n + m) (xs ++ news) → w.grownBy w' v.ownBlock → (v'.ownBlock = v.ownBlock ∨ v'.ownBlock = some w.heap.size) →
   (i ∉ D → S w') ∧ wpAnyD P md ops Q S D fuel (listed.setIfInBounds i true) { a with tmps := a.tmps.setIfInBounds dd v' } w') :
  wpOp P ops Q i (fun a' w' => (i ∉ D → S w') ∧ wpAnyD P md ops Q S D fuel (listed.setIfInBounds i true) a' w') a w := by
 cases y with
 | none =>
  obtain ⟨hl, a', cap', e1, h3, h4, h5, h6⟩ := hr
  simp only [Value.slice.injEq] at e1
  obtain ⟨rfl, -, rfl⟩ := e1
  have hc := h5 rfl
  subst hc
  obtain rfl : m = 0 := by omega
  obtain rfl : news = [] := List.eq_nil_of_length_eq_zero (by omega)
  have hrr := run_append_owned_none (P := P) (w := w) base t oi.type e i1 size ht hi v n xs hown
  obtain ⟨hS, hh⟩ := h v w (by simpa using hown) ⟨rfl, rfl, rfl, Nat.le_refl _, fun _ _ _ => rfl⟩ (Or.inl rfl)
  refine valueV i v hii hd (by unfold Region.wanted; rw [gi]) (w' := w) ?_ hS hh
  unfold execOp
  simp only [ho, resolve, invoke, builtin, Sem.run_bind, Sem.run_pure, Result.andThen_ok, List.map_toArray, List.map_cons, List.map_nil, hs, hx, hrr]
 | some ad =>
  obtain ⟨v', w', hrr, h2, h3, h4, h5⟩ := run_append_own_at (P := P) w base t oi.type e i1 z size bytes ht hi hz hsize hby hzs hsz v n xs hown ad m c news hr.1 (Rd.news hr) h1 h63 hbytes hbase
  obtain ⟨hS, hh⟩ := h v' w' h2 h3 h5
  refine valueV i v' hii hd (by unfold Region.wanted; rw [gi]) (w' := w') ?_ hS hh
  unfold execOp
  simp only [ho, resolve, invoke, builtin, Sem.run_bind, Sem.run_pure, Result.andThen_ok, List.map_toArray, List.map_cons, List.map_nil, hs, hx, hrr]
theorem renter_any (at' left : Int) (w : World) (B q : Nat) (V : Vs) (X : EV) (E : Env) (s : MS) (h : MSt LR w B q V X E s) (hB : B ≤ w.heap.size) (hs : OkS E s) (fN : Frm) (hfN : fcR fN = [.int .i64 at', .int .i64 (s.st.length : Int), .int .i64 left]) :
  Calls Tryz.prog 80 #[.pointer (some ⟨q, 0, none⟩), .int .i64 at', .int .i64 left] w fun x w' => x = .returned (.tuple #[]) ∧ ∃ V', MSt LR w' B q V' X E { s with fr := s.fr ++ [fN] } ∧ Chg (SV q V) w w' ∧ ToV w.heap.size q V V' := by
 obtain ⟨i0, hi, hz0, hz1, hz2⟩ := info_parts rframe_info
 have hrow := h.row 3 _ rfl
 have hrow2 := h.row 2 _ rfl
 unfold Row.own at hrow hrow2
 simp only at hrow hrow2
 have c11 := h.cell 11 _ rfl
 have c9 := h.cell 9 _ rfl
 have h8 := hs.fr
 obtain ⟨a0, cc0, hv0, hcc, -⟩ := own_shape hrow
 obtain ⟨a9, cc9, hv9, -⟩ := own_shape hrow2
 obtain ⟨n, hn⟩ := ex s.fr.length
 obtain ⟨st, hst⟩ := ex s.st.length
 have hRd := hidden (show Rd w 3 (.slice a0 n cc0) n (s.fr.flatMap fcR) by have := Rd.of_own hrow; rw [hv0, hn] at this; exact this)
 rw [hv0, hn] at c11
 rw [hv9, hst] at c9
 rw [hn] at h8 hcc
 rw [hst] at hfN
 have hI := hidden h
 have hia := hidden hi
 replace hfN := hidden (show [fN].flatMap fcR = [.int .i64 at', .int .i64 (st : Int), .int .i64 left] by simp [hfN])
 replace hn := hidden hn
 replace hst := hidden hst
 clear h hs hi hrow hrow2 hv0 hv9
 go_enter Tryz.func80, Tryz.ntmps80
 go_upto_region 0 with fail
 refine wp_region_D (S := fun w' => w'.cell? ⟨q, 11, none⟩ = some (.slice a0 n cc0) ∧ w'.cell? ⟨q, 9, none⟩ = some (.slice a9 st cc9)) (D := [19]) (by kernel_rfl) ⟨c11, c9⟩ (fun HS => ?_)
 refine tk 0 [17, 18, 19] (.pointer (some ⟨q, 0, none⟩)) HS ?_; try simp only [sx]
 refine tk 2 [3, 4, 5, 6, 16, 17, 18, 19] (.pointer (some ⟨q, 0, none⟩)) HS ?_; try simp only [sx]
 refine tk 3 [4, 5, 6, 16, 17, 18, 19] (.pointer (some ⟨q, 0, none⟩)) HS ?_; try simp only [sx]
 refine tk 4 [5, 6, 16, 17, 18, 19] (.pointer (some ⟨q, 11, none⟩)) HS ?_; try simp only [sx]
 refine tk 5 [6, 16, 17, 18, 19] (.slice a0 n cc0) HS ?_; try simp only [sx]
 refine tk 7 [14, 15, 16, 17, 18, 19] (.int .i64 at') HS ?_; try simp only [sx]
 refine tk 8 [9, 10, 11, 12, 14, 15, 16, 17, 18, 19] (.pointer (some ⟨q, 0, none⟩)) HS ?_; try simp only [sx]
 refine tk 9 [10, 11, 12, 14, 15, 16, 17, 18, 19] (.pointer (some ⟨q, 0, none⟩)) HS ?_; try simp only [sx]
 refine tk 10 [11, 12, 14, 15, 16, 17, 18, 19] (.pointer (some ⟨q, 9, none⟩)) HS ?_; try simp only [sx]
 refine tk 11 [12, 14, 15, 16, 17, 18, 19] (.slice a9 st cc9) HS ?_; try simp only [sx]
 refine tk 12 [14, 15, 16, 17, 18, 19] (.int .i64 (st : Int)) HS ?_; try simp only [sx]
 refine tk 13 [14, 15, 16, 17, 18, 19] (.int .i64 left) HS ?_; try simp only [sx]
 refine tk 14 [15, 16, 17, 18, 19] (.agg #[.int .i64 at', .int .i64 (st : Int), .int .i64 left]) HS ?_; try simp only [sx]
 have X0 := (Ext.refl w).drew
 obtain ⟨W0, hW0⟩ := ex w.drew
 rw [hW0] at X0 HS ⊢
 clear hW0
 refine wpAnyD_all (rs := [1, 15]) (by kernel_rfl) (by simp) ?_
 intro kk hkk
 simp only [List.mem_cons, List.not_mem_nil, or_false] at hkk
 rcases hkk with rfl | rfl
 ·have XA1 := (X0).alloc (.cells #[] 145)
  have XC1 := (Ext.refl W0).alloc (.cells #[] 145)
  have hO1 := own_zero W0 145 3
  have s1 := And.intro (XC1.cell (HS).1) (XC1.cell (HS).2)
  refine valueV 1 (.slice (some ⟨W0.heap.size, 0, none⟩) 0 0) rfl rfl (by rfl) (w' := W0.alloc (.cells #[] 145)) (by go_simp) (fun _ => s1) ?_; try simp only [sx]
  obtain ⟨V1, hV1⟩ := ex (W0.alloc (.cells #[] 145))
  obtain ⟨i1, hi1⟩ := ex W0.heap.size
  have z1 : V1.heap.size = i1 + 1 := by rw [← hV1, ← hi1]; exact Array.size_push ..
  rw [hV1] at XA1 XC1 hO1 s1 ⊢
  rw [hi1] at hO1 ⊢
  have hib1 : w.heap.size ≤ i1 := by have := (X0).size; omega
  clear hV1
  refine wpAnyD_all (rs := [6, 15]) (by kernel_rfl) (by simp) ?_
  intro kk hkk
  simp only [List.mem_cons, List.not_mem_nil, or_false] at hkk
  rcases hkk with rfl | rfl
  ·refine appendV0 6 rfl rfl rfl _ _ 87 (by rfl) w.heap.size 145 i0 (.agg #[.int .i64 0, .int .i64 0, .int .i64 0]) 3 24 Tryz.underlying87 hia.out hz0 hz1 hz2 rfl (by decide) (.slice (some ⟨i1, 0, none⟩) 0 0) 0 [] (by rfl) (own_mono hO1 hib1) a0 n cc0 (s.fr.flatMap fcR) (by rfl) (Rd.ext hRd.out (XA1)) (fcR_one _) (by unfold maxLen; omega) (by omega) (by have := (XA1).size; omega) ?_
   intro v'' V2 hown2 hgrow2 hat2
   rw [Nat.zero_add, List.nil_append] at hown2
   obtain ⟨b2, d2, rfl, -⟩ := own_shape hown2
   have XA2 := ((Chg.of_ext [] (XA1)).grown hgrow2 (fun k hk => Or.inr (own_lt (own_mono hO1 hib1) hk).1)).ext
   have XC2 : Chg ((.slice (some ⟨i1, 0, none⟩) 0 0) : Value).ownBlock.toList V1 V2 := (Chg.refl _ _).grown hgrow2 (fun k hk => Or.inl (by simp [hk]))
   have s2 := And.intro (XA2.cell c11) (XA2.cell c9)
   refine ⟨fun _ => s2, ?_⟩; try simp only [sx]
   have XA3 := (XA2).alloc (.cells #[.int .i64 at', .int .i64 (st : Int), .int .i64 left] 145)
   have XC3 := (Ext.refl V2).alloc (.cells #[.int .i64 at', .int .i64 (st : Int), .int .i64 left] 145)
   have hN3 := rd_newc V2 [.int .i64 at', .int .i64 (st : Int), .int .i64 left] 145 3 1 rfl (by decide)
   have s3 := And.intro (XC3.cell (s2).1) (XC3.cell (s2).2)
   refine valueD 15 (.slice (some ⟨V2.heap.size, 0, none⟩) 1 1) rfl rfl (by kernel_rfl) (by rfl) (w' := V2.alloc (.cells #[.int .i64 at', .int .i64 (st : Int), .int .i64 left] 145)) (by go_simp) (fun _ => s3) ?_; try simp only [sx]
   obtain ⟨V3, hV3⟩ := ex (V2.alloc (.cells #[.int .i64 at', .int .i64 (st : Int), .int .i64 left] 145))
   obtain ⟨i3, hi3⟩ := ex V2.heap.size
   have z3 : V3.heap.size = i3 + 1 := by rw [← hV3, ← hi3]; exact Array.size_push ..
   rw [show (V2.alloc (.cells ([.int .i64 at', .int .i64 (st : Int), .int .i64 left] : List Value).toArray 145)) = V3 from hV3] at hN3
   rw [hV3] at XA3 XC3 s3 ⊢
   rw [hi3] at hN3 ⊢
   clear hV3
   have hO3 := own_ext (hown2) XC3
   refine appendD0 16 rfl rfl rfl (by kernel_rfl) _ _ 87 (by rfl) w.heap.size 145 i0 (.agg #[.int .i64 0, .int .i64 0, .int .i64 0]) 3 24 Tryz.underlying87 hia.out hz0 hz1 hz2 rfl (by decide) (.slice b2 n d2) n (s.fr.flatMap fcR) (by rfl) (hO3) (some ⟨i3, 0, none⟩) 1 1 [.int .i64 at', .int .i64 (st : Int), .int .i64 left] (by rfl) (hN3) (by simp [Value.oneCell']) (by unfold maxLen; omega) (by omega) (by have := (XA3).size; omega) ?_
   intro v'' w9 hown9 hgrow9 hat9
   obtain ⟨a4, c4, rfl, -⟩ := own_shape hown9
   have hX9 := hidden ((Chg.of_ext [] (XA3)).grown hgrow9 (fun k hk => Or.inr (own_lt (hO3) hk).1)).ext
   have e9 := And.intro (hX9.out.cell c11) (hX9.out.cell c9)
   have f9 := (hI.out.blk.ext hX9.out).frozen 11
   refine ⟨fun _ => e9, ?_⟩; try simp only [sx]
   refine tk 17 [18, 19] (.pointer (some ⟨q, 0, none⟩)) e9 ?_; try simp only [sx]
   refine tk 18 [19] (.pointer (some ⟨q, 11, none⟩)) e9 ?_; try simp only [sx]
   refine storeD 19 rfl rfl (by kernel_rfl) (by rfl) (w' := w9.setCell ⟨q, 11, none⟩ (.slice a4 (n + 1) c4)) (by go_simp) (fun h => absurd (by decide) h) ?_
   refine wpAnyD_done (by kernel_rfl) ?_ _
   show _
   obtain ⟨m1, m2, m3⟩ := hI.out.newRow (i := 3) (j := 11) (r' := ⟨145, 3, .slice a4 (n + 1) c4, (s.fr ++ [fN]).length, (s.fr ++ [fN]).flatMap fcR⟩) (V' := { V with fr := .slice a4 (n + 1) c4 }) (s' := { s with fr := s.fr ++ [fN] }) rfl hX9.out (by unfold Row.own; simp only [List.length_append, List.flatMap_append, hn.out, hfN.out]; exact own_mono hown9 hB) (fun x hx => (own_lt hown9 hx).1) rfl hI.out.al rfl
   simp only at m1 m2
   go_wp2_with fail
   go_end0
   exact ⟨rfl, _, m1, m2, m3⟩
  ·have XA5 := (XA1).alloc (.cells #[.int .i64 at', .int .i64 (st : Int), .int .i64 left] 145)
   have XC5 := (Ext.refl V1).alloc (.cells #[.int .i64 at', .int .i64 (st : Int), .int .i64 left] 145)
   have hN5 := rd_newc V1 [.int .i64 at', .int .i64 (st : Int), .int .i64 left] 145 3 1 rfl (by decide)
   have s5 := And.intro (XC5.cell (s1).1) (XC5.cell (s1).2)
   refine valueV 15 (.slice (some ⟨V1.heap.size, 0, none⟩) 1 1) rfl rfl (by rfl) (w' := V1.alloc (.cells #[.int .i64 at', .int .i64 (st : Int), .int .i64 left] 145)) (by go_simp) (fun _ => s5) ?_; try simp only [sx]
   obtain ⟨V5, hV5⟩ := ex (V1.alloc (.cells #[.int .i64 at', .int .i64 (st : Int), .int .i64 left] 145))
   obtain ⟨i5, hi5⟩ := ex V1.heap.size
   have z5 : V5.heap.size = i5 + 1 := by rw [← hV5, ← hi5]; exact Array.size_push ..
   rw [show (V1.alloc (.cells ([.int .i64 at', .int .i64 (st : Int), .int .i64 left] : List Value).toArray 145)) = V5 from hV5] at hN5
   rw [hV5] at XA5 XC5 s5 ⊢
   rw [hi5] at hN5 ⊢
   clear hV5
   have hO5 := own_ext (own_mono hO1 hib1) XC5
   have ne5 : i5 ≠ i1 := by omega
   refine appendD0 6 rfl rfl rfl (by kernel_rfl) _ _ 87 (by rfl) w.heap.size 145 i0 (.agg #[.int .i64 0, .int .i64 0, .int .i64 0]) 3 24 Tryz.underlying87 hia.out hz0 hz1 hz2 rfl (by decide) (.slice (some ⟨i1, 0, none⟩) 0 0) 0 [] (by rfl) (hO5) a0 n cc0 (s.fr.flatMap fcR) (by rfl) (Rd.ext hRd.out (XA5)) (fcR_one _) (by unfold maxLen; omega) (by omega) (by have := (XA5).size; omega) ?_
   intro v'' V6 hown6 hgrow6 hat6
   rw [Nat.zero_add, List.nil_append] at hown6
   obtain ⟨b6, d6, rfl, -⟩ := own_shape hown6
   have XA6 := ((Chg.of_ext [] (XA5)).grown hgrow6 (fun k hk => Or.inr (own_lt (hO5) hk).1)).ext
   have XC6 : Chg ((.slice (some ⟨i1, 0, none⟩) 0 0) : Value).ownBlock.toList V5 V6 := (Chg.refl _ _).grown hgrow6 (fun k hk => Or.inl (by simp [hk]))
   have s6 := And.intro (XA6.cell c11) (XA6.cell c9)
   refine ⟨fun _ => s6, ?_⟩; try simp only [sx]
   have hN6 := Rd.chg (hN5) XC6 (fun x hx _ hv => by simp only [Value.ownBlock, Option.toList_some, List.mem_singleton] at hx; simp only [Value.ownBlock, Option.some.injEq] at hv; exact ne5 (by omega))
   refine appendD0 16 rfl rfl rfl (by kernel_rfl) _ _ 87 (by rfl) w.heap.size 145 i0 (.agg #[.int .i64 0, .int .i64 0, .int .i64 0]) 3 24 Tryz.underlying87 hia.out hz0 hz1 hz2 rfl (by decide) (.slice b6 n d6) n (s.fr.flatMap fcR) (by rfl) (hown6) (some ⟨i5, 0, none⟩) 1 1 [.int .i64 at', .int .i64 (st : Int), .int .i64 left] (by rfl) (hN6) (by simp [Value.oneCell']) (by unfold maxLen; omega) (by omega) (by have := (XA6).size; omega) ?_
   intro v'' w9 hown9 hgrow9 hat9
   obtain ⟨a4, c4, rfl, -⟩ := own_shape hown9
   have hX9 := hidden ((Chg.of_ext [] (XA6)).grown hgrow9 (fun k hk => Or.inr (own_lt (hown6) hk).1)).ext
   have e9 := And.intro (hX9.out.cell c11) (hX9.out.cell c9)
   have f9 := (hI.out.blk.ext hX9.out).frozen 11
   refine ⟨fun _ => e9, ?_⟩; try simp only [sx]
   refine tk 17 [18, 19] (.pointer (some ⟨q, 0, none⟩)) e9 ?_; try simp only [sx]
   refine tk 18 [19] (.pointer (some ⟨q, 11, none⟩)) e9 ?_; try simp only [sx]
   refine storeD 19 rfl rfl (by kernel_rfl) (by rfl) (w' := w9.setCell ⟨q, 11, none⟩ (.slice a4 (n + 1) c4)) (by go_simp) (fun h => absurd (by decide) h) ?_
   refine wpAnyD_done (by kernel_rfl) ?_ _
   show _
   obtain ⟨m1, m2, m3⟩ := hI.out.newRow (i := 3) (j := 11) (r' := ⟨145, 3, .slice a4 (n + 1) c4, (s.fr ++ [fN]).length, (s.fr ++ [fN]).flatMap fcR⟩) (V' := { V with fr := .slice a4 (n + 1) c4 }) (s' := { s with fr := s.fr ++ [fN] }) rfl hX9.out (by unfold Row.own; simp only [List.length_append, List.flatMap_append, hn.out, hfN.out]; exact own_mono hown9 hB) (fun x hx => (own_lt hown9 hx).1) rfl hI.out.al rfl
   simp only at m1 m2
   go_wp2_with fail
   go_end0
   exact ⟨rfl, _, m1, m2, m3⟩
 ·have XA8 := (X0).alloc (.cells #[.int .i64 at', .int .i64 (st : Int), .int .i64 left] 145)
  have XC8 := (Ext.refl W0).alloc (.cells #[.int .i64 at', .int .i64 (st : Int), .int .i64 left] 145)
  have hN8 := rd_newc W0 [.int .i64 at', .int .i64 (st : Int), .int .i64 left] 145 3 1 rfl (by decide)
  have s8 := And.intro (XC8.cell (HS).1) (XC8.cell (HS).2)
  refine valueV 15 (.slice (some ⟨W0.heap.size, 0, none⟩) 1 1) rfl rfl (by rfl) (w' := W0.alloc (.cells #[.int .i64 at', .int .i64 (st : Int), .int .i64 left] 145)) (by go_simp) (fun _ => s8) ?_; try simp only [sx]
  obtain ⟨V8, hV8⟩ := ex (W0.alloc (.cells #[.int .i64 at', .int .i64 (st : Int), .int .i64 left] 145))
  obtain ⟨i8, hi8⟩ := ex W0.heap.size
  have z8 : V8.heap.size = i8 + 1 := by rw [← hV8, ← hi8]; exact Array.size_push ..
  rw [show (W0.alloc (.cells ([.int .i64 at', .int .i64 (st : Int), .int .i64 left] : List Value).toArray 145)) = V8 from hV8] at hN8
  rw [hV8] at XA8 XC8 s8 ⊢
  rw [hi8] at hN8 ⊢
  clear hV8
  have XA9 := (XA8).alloc (.cells #[] 145)
  have XC9 := (Ext.refl V8).alloc (.cells #[] 145)
  have hO9 := own_zero V8 145 3
  have s9 := And.intro (XC9.cell (s8).1) (XC9.cell (s8).2)
  refine valueD 1 (.slice (some ⟨V8.heap.size, 0, none⟩) 0 0) rfl rfl (by kernel_rfl) (by rfl) (w' := V8.alloc (.cells #[] 145)) (by go_simp) (fun _ => s9) ?_; try simp only [sx]
  obtain ⟨V9, hV9⟩ := ex (V8.alloc (.cells #[] 145))
  obtain ⟨i9, hi9⟩ := ex V8.heap.size
  have z9 : V9.heap.size = i9 + 1 := by rw [← hV9, ← hi9]; exact Array.size_push ..
  rw [hV9] at XA9 XC9 hO9 s9 ⊢
  rw [hi9] at hO9 ⊢
  have hib9 : w.heap.size ≤ i9 := by have := (XA8).size; omega
  clear hV9
  have hN9 := Rd.ext (hN8) XC9
  have ne9 : i8 ≠ i9 := by omega
  refine appendD0 6 rfl rfl rfl (by kernel_rfl) _ _ 87 (by rfl) w.heap.size 145 i0 (.agg #[.int .i64 0, .int .i64 0, .int .i64 0]) 3 24 Tryz.underlying87 hia.out hz0 hz1 hz2 rfl (by decide) (.slice (some ⟨i9, 0, none⟩) 0 0) 0 [] (by rfl) (own_mono hO9 hib9) a0 n cc0 (s.fr.flatMap fcR) (by rfl) (Rd.ext hRd.out (XA9)) (fcR_one _) (by unfold maxLen; omega) (by omega) (by have := (XA9).size; omega) ?_
  intro v'' V10 hown10 hgrow10 hat10
  rw [Nat.zero_add, List.nil_append] at hown10
  obtain ⟨b10, d10, rfl, -⟩ := own_shape hown10
  have XA10 := ((Chg.of_ext [] (XA9)).grown hgrow10 (fun k hk => Or.inr (own_lt (own_mono hO9 hib9) hk).1)).ext
  have XC10 : Chg ((.slice (some ⟨i9, 0, none⟩) 0 0) : Value).ownBlock.toList V9 V10 := (Chg.refl _ _).grown hgrow10 (fun k hk => Or.inl (by simp [hk]))
  have s10 := And.intro (XA10.cell c11) (XA10.cell c9)
  refine ⟨fun _ => s10, ?_⟩; try simp only [sx]
  have hN10 := Rd.chg (hN9) XC10 (fun x hx _ hv => by simp only [Value.ownBlock, Option.toList_some, List.mem_singleton] at hx; simp only [Value.ownBlock, Option.some.injEq] at hv; exact ne9 (by omega))
  refine appendD0 16 rfl rfl rfl (by kernel_rfl) _ _ 87 (by rfl) w.heap.size 145 i0 (.agg #[.int .i64 0, .int .i64 0, .int .i64 0]) 3 24 Tryz.underlying87 hia.out hz0 hz1 hz2 rfl (by decide) (.slice b10 n d10) n (s.fr.flatMap fcR) (by rfl) (hown10) (some ⟨i8, 0, none⟩) 1 1 [.int .i64 at', .int .i64 (st : Int), .int .i64 left] (by rfl) (hN10) (by simp [Value.oneCell']) (by unfold maxLen; omega) (by omega) (by have := (XA10).size; omega) ?_
  intro v'' w9 hown9 hgrow9 hat9
  obtain ⟨a4, c4, rfl, -⟩ := own_shape hown9
  have hX9 := hidden ((Chg.of_ext [] (XA10)).grown hgrow9 (fun k hk => Or.inr (own_lt (hown10) hk).1)).ext
  have e9 := And.intro (hX9.out.cell c11) (hX9.out.cell c9)
  have f9 := (hI.out.blk.ext hX9.out).frozen 11
  refine ⟨fun _ => e9, ?_⟩; try simp only [sx]
  refine tk 17 [18, 19] (.pointer (some ⟨q, 0, none⟩)) e9 ?_; try simp only [sx]
  refine tk 18 [19] (.pointer (some ⟨q, 11, none⟩)) e9 ?_; try simp only [sx]
  refine storeD 19 rfl rfl (by kernel_rfl) (by rfl) (w' := w9.setCell ⟨q, 11, none⟩ (.slice a4 (n + 1) c4)) (by go_simp) (fun h => absurd (by decide) h) ?_
  refine wpAnyD_done (by kernel_rfl) ?_ _
  show _
  obtain ⟨m1, m2, m3⟩ := hI.out.newRow (i := 3) (j := 11) (r' := ⟨145, 3, .slice a4 (n + 1) c4, (s.fr ++ [fN]).length, (s.fr ++ [fN]).flatMap fcR⟩) (V' := { V with fr := .slice a4 (n + 1) c4 }) (s' := { s with fr := s.fr ++ [fN] }) rfl hX9.out (by unfold Row.own; simp only [List.length_append, List.flatMap_append, hn.out, hfN.out]; exact own_mono hown9 hB) (fun x hx => (own_lt hown9 hx).1) rfl hI.out.al rfl
  simp only at m1 m2
  go_wp2_with fail
  go_end0
  exact ⟨rfl, _, m1, m2, m3⟩
def RPop (w : World) (B q : Nat) (V : Vs) (X : EV) (E : Env) (s : MS) (r : Except Int (List Vl × List Vl)) (x : Ending) (w' : World) : Prop :=
 match r with
 | .error e => x = .returned (.tuple #[.slice none 0 0, .int .i64 e]) ∧ Chg (SV q V) w w'
 | .ok (l, t) => ∃ v V', x = .returned (.tuple #[v, .int .i64 0]) ∧ Rd w' 2 v l.length (l.flatMap vcR) ∧ MSt LR w' B q V' X E { s with st := t } ∧ Chg (SV q V) w w' ∧ ToV w.heap.size q V V'
theorem own_zero' {w w0 : World} (h : Ext w0 w) (e : TypeId) (sz : Nat) : (w.alloc (.cells #[] e)).ownsRow w0.heap.size e sz (.slice (some ⟨w.heap.size, 0, none⟩) 0 0) 0 [] := own_mono (own_zero w e sz) h.size
theorem rpop_any (op : Int) (hty2 : (opAt op).2.1.size ≤ 2) (w : World) (B q : Nat) (V : Vs) (X : EV) (E : Env) (s : MS) (h : MSt LR w B q V X E s) (hB : B ≤ w.heap.size) (hs : OkS E s) :
  Calls Tryz.prog 56 #[.pointer (some ⟨q, 0, none⟩), .int .i64 op] w (RPop w B q V X E s (popF (opAt op).2.1.data.toList s.st (baseF s.fr))) := by
 obtain ⟨i0, hi, hz0, hz1, hz2⟩ := info_parts rvalue_info
 have hia := hidden hi
 have hef := hidden (reff_any op)
 obtain ⟨ty, htyE⟩ := ex ((opAt op).2.1)
 rw [htyE] at hty2 hef ⊢
 have hbase := fun W (c : Ext w W) => rbase_any W B q V X E s (h.ext c) hs
 have hrow := h.row 2 _ rfl
 unfold Row.own at hrow
 simp only at hrow
 obtain ⟨av, cv, hV0, hcv, hcv2, -⟩ := own_shape hrow
 have c9 := h.cell 9 _ rfl
 have h32 := hs.st
 have hM := hidden h
 have hb0 : 0 ≤ baseF s.fr := by
  unfold baseF
  split
  ·exact Int.le_refl _
  next f hf => exact (hs.frv f (last_mem hf)).1
 have hb1 : baseF s.fr ≤ 32 := by
  unfold baseF
  split
  ·omega
  next f hf => exact (hs.frv f (last_mem hf)).2.1
 rw [hV0] at hrow c9
 obtain ⟨R, hR⟩ := ex (popF ty.data.toList s.st (baseF s.fr))
 obtain ⟨b, hb⟩ := ex (baseF s.fr)
 obtain ⟨N, hN⟩ := ex s.st.length
 obtain ⟨k, hk⟩ := ex ty.size
 have hkl : ty.data.toList.length = k := by rw [← hk]; simp
 rw [hR]
 rw [hb] at hbase hR hb0 hb1
 rw [hN] at hrow h32 c9 hcv
 rw [hk] at hty2
 unfold popF at hR
 rw [hN, hkl] at hR
 replace hbase := hidden hbase
 have c0 := c9
 replace c0 := hidden c0
 clear h hs hi htyE
 obtain ⟨t, ht⟩ := ex ((N : Int) - b)
 have hw1 : IntKind.i64.wrap ((N : Int) - b) = t := by rw [IntWalk.i64_in _ (by omega)]; exact ht
 obtain ⟨bb, hbb⟩ := ex (decide (t < (k : Int)))
 have htI := hidden ht
 have hbbI := hidden hbb
 clear ht
 have hksz : (ty.size : Int) = (k : Int) := by rw [hk]
 go_enter Tryz.func56, Tryz.ntmps56
 go_wp2_with fail
 refine (hef.out w).mono ?_
 rintro x w0 ⟨rfl, hww⟩
 rw [← hww]
 clear hww hef
 go_upto_region 3 with fail
 refine wp_region_D (S := fun w' => w'.cell? ⟨q, 9, none⟩ = some (.slice av N cv)) (D := []) (by kernel_rfl) c9 (fun HS => ?_)
 refine tk 0 [] (.pointer (some ⟨q, 0, none⟩)) HS ?_; try simp only [sx]
 refine tk 1 [] (.pointer (some ⟨q, 0, none⟩)) HS ?_; try simp only [sx]
 refine tk 2 [] (.pointer (some ⟨q, 9, none⟩)) HS ?_; try simp only [sx]
 refine tk 3 [] (.slice av N cv) HS ?_; try simp only [sx]
 refine tk 4 [] (.int .i64 (N : Int)) HS ?_; try simp only [sx]
 refine tk 5 [] (.pointer (some ⟨q, 0, none⟩)) HS ?_; try simp only [sx]
 refine tk 8 [] (.int .i64 (k : Int)) HS ?_; try simp only [sx]
 refine callVD 6 79 #[.pointer (some ⟨q, 0, none⟩)] rfl rfl (by kernel_rfl) (by rfl) (by go_simp) (hbase.out _ (Ext.refl w).drew) ?_
 rintro x w1 ⟨rfl, hX⟩
 have k9 := hX.cell HS
 refine Or.inl ⟨_, rfl, fun _ => k9, ?_⟩
 try simp only [Act.put, sx]
 refine tk 7 [] (.int .i64 t) k9 ?_; try simp only [sx]
 refine tk 9 [] (.bool bb) k9 ?_; try simp only [sx]
 refine wpAnyD_done (by kernel_rfl) ?_ _
 show _
 replace hX := hidden ((Ext.refl w).drew.trans hX)
 clear c9
 have c9 := k9
 by_cases hlt : (N : Int) - (k : Int) < b
 ·rw [if_pos hlt] at hR
  have hbt : bb = true := by rw [← hbbI.out]; have := htI.out; simp; omega
  subst hbt
  replace hlt := hidden hlt
  replace hR := hidden hR
  clear hbb
  go_wp2_with fail
  go_ret2
  show RPop _ _ _ _ _ _ _ R _ _
  rw [← hR.out]
  exact ⟨rfl, Chg.of_ext _ hX.out⟩
 ·rw [if_neg hlt] at hR
  have hbt : bb = false := by rw [← hbbI.out]; have := htI.out; simp; omega
  subst hbt
  clear hbb
  obtain ⟨m, hm⟩ := ex (N - k)
  have htp := htI.out
  have hmN : m + k = N := by omega
  rw [hm] at hR
  have hw2 : IntKind.i64.wrap ((N : Int) - (k : Int)) = (m : Int) := by rw [IntWalk.i64_in _ (by omega)]; omega
  have hdl : (s.st.drop m).length = k := by rw [List.length_drop]; omega
  obtain ⟨a2, c2, hrun, hRd, -⟩ := cut_l (P := Tryz.prog) (t := 86) Tryz.underlying86 (sz := 2) (fun w => by simp [go_sem, hia.out, hz1]) (Rd.of_own hrow) m (m : Int) rfl (by omega)
  rw [show N - m = k by omega] at hrun hRd
  have hfd : (s.st.flatMap LR.vc).drop (m * 2) = (s.st.drop m).flatMap vcR := flat_drop (E := vcR) (sz := 2) (fun _ => rfl) s.st m
  have hRd1 : Rd w 2 (.slice a2 k c2) k ((s.st.drop m).flatMap vcR) := by rw [← hfd]; exact hRd
  have hcut := cut_own (P := Tryz.prog) (t := 86) Tryz.underlying86 (sz := 2) (fun w => by simp [go_sem, hia.out, hz1]) N cv m av (m : Int) rfl (by omega) hcv
  have hRow2 := own_cut hrow (show m ≤ N by omega)
  rw [show (s.st.flatMap LR.vc).take (m * 2) = (s.st.take m).flatMap vcR from flat_take (E := vcR) (sz := 2) (fun _ => rfl) s.st m] at hRow2
  obtain ⟨L, hL⟩ := ex (s.st.drop m)
  obtain ⟨T, hT⟩ := ex (s.st.take m)
  have hTl : T.length = m := by rw [← hT, List.length_take]; omega
  rw [hL] at hRd1 hdl hR
  rw [hT] at hRow2 hR
  have XE1 := hX.out.alloc (.cells #[] 147)
  have hO0 := hidden (own_zero' hX.out 147 2)
  have hRd2 := hidden (Rd.ext hRd1 XE1)
  have d9 := ((Ext.refl w1).alloc (.cells #[] 147)).cell c9
  have XEI := hidden XE1
  have hRow2I := hidden (Rd.of_own hRow2)
  replace hR := hidden hR
  replace hN := hidden hN
  replace hkl := hidden hkl
  replace hdl := hidden hdl
  replace hTl := hidden hTl
  replace hL := hidden hL
  replace hT := hidden hT
  replace hV0 := hidden hV0
  replace hrow := hidden hrow
  have hkI := hidden hk
  have hrunI := hidden hrun
  have hcutI := hidden hcut
  clear hfd hRd hRd1 XE1 hm hlt hRow2 hk htp hcut
  go_upto_region 7 with (at_builtin; refine wpList_append_rd (by rfl) _ _ 86 (by rfl) w.heap.size 147 i0 (.agg #[.bool false, .int .u32 0]) 2 8 Tryz.underlying86 hia.out hz0 hz1 hz2 rfl (by decide) (.slice (some ⟨w1.heap.size, 0, none⟩) 0 0) 0 [] (by rfl) hO0.out a2 k c2 (L.flatMap vcR) (by rfl) hRd2.out (vcR_one _) (by unfold maxLen; omega) (by omega) (by have := XEI.out.size; omega) ?_; intro v' w4 hown4 hgrow4 hat4; rw [Nat.zero_add, List.nil_append] at hown4; obtain ⟨al, cl, rfl, -, -, hal⟩ := own_shape hown4; have hX4 := hidden ((Chg.of_ext [] XEI.out).grown hgrow4 (fun k hk => Or.inr (own_lt hO0.out hk).1)).ext; have hOl := hidden hown4; have halI := hidden hal; clear hown4 hgrow4 hat4 hal)
  have j9 := hX4.out.cell c0.out
  clear c9 d9 k9 hrun
  go_wp2_with fail
  go_loopw [12] (fun ix wr => ∃ (pos : Nat), pos ≤ k ∧ ix = .int .i64 (pos : Int) ∧ Hid (∀ (j : Nat), j < pos → ∀ (t : UInt8) (v : Vl), ty.data.toList[j]? = some t → L[j]? = some v → ok1 t v = true) ∧ Hid (Ext w4 wr)) (fun ix _ => (k - intOf ix).toNat)
  case atStart => exact ⟨0, Nat.zero_le _, rfl, hidden (fun j hj => by omega), hidden (Ext.refl _)⟩
  case round =>
   obtain ⟨pos, hpos, rfl, hok, hEr⟩ := hrel
   have hkw : IntKind.i64.wrap ((pos : Int) + 1) = (pos : Int) + 1 := IntWalk.i64_in _ (by omega)
   clear j9
   by_cases hp : pos < k
   ·have hpk : (pos : Int) < (k : Int) := by omega
    obtain ⟨b8, hb8, hidx⟩ : ∃ b8 : UInt8, ty.data.toList[pos]? = some b8 ∧ ∀ W, (Instr.index 9 (.string ty) (.int .i64 (pos : Int))).run Tryz.prog W = .ok (.int .u8 (b8.toNat : Int)) W := by
     have hp' : pos < ty.size := by rw [hkI.out]; exact hp
     refine ⟨ty[pos]'hp', by rw [List.getElem?_eq_getElem (by simpa using hp')]; rfl, fun W => ?_⟩
     rw [run_index_string (h := Tryz.underlying9), dif_pos ⟨by omega, by omega⟩]
     simp
    obtain ⟨⟨x, tr⟩, hv⟩ : ∃ v, L[pos]? = some v := ⟨L[pos]'(by rw [hdl.out]; exact hp), List.getElem?_eq_getElem _⟩
    obtain ⟨g, rfl, hg1, hg2⟩ := halI.out (by omega)
    have hc := hEr.out.cell (own_cell hOl.out (pos * 2 + 0) _ (flat_at (E := vcR) (m := 2) (fun _ => rfl) hv (j := 0) rfl))
    rw [Nat.add_zero] at hc
    have hok2 : Hid (ok1 b8 (x, tr) = true → ∀ (j : Nat), j < pos + 1 → ∀ (t : UInt8) (v : Vl), ty.data.toList[j]? = some t → L[j]? = some v → ok1 t v = true) := by
     intro h1 j hj t v ht hv2
     by_cases hjp : j < pos
     ·exact hok.out j hjp t v ht hv2
     ·obtain rfl : j = pos := by omega
      rw [hb8] at ht
      rw [hv] at hv2
      simp only [Option.some.injEq] at ht hv2
      subst ht
      subst hv2
      exact h1
    have hbad : Hid (ok1 b8 (x, tr) = false → R = .error 13) := by
     intro h1
     rw [← hR.out, tyOk_false _ _ pos b8 (x, tr) hb8 hv h1]
     rfl
    have hXi := hidden (hX4.out.trans hEr.out)
    replace hv := hidden hv
    replace hb8 := hidden hb8
    clear hok
    by_cases h110 : b8 = 110
    ·subst h110
     rw [show ((110 : UInt8).toNat : Int) = 110 from rfl] at hidx
     cases tr
     ·go_wp2_with fail
      go_roundw
      case rel => exact ⟨pos + 1, by omega, by go_num, hidden (hok2.out rfl), hEr⟩
      case measure => simp [intOf]; omega
     ·go_wp2_with fail
      go_ret2
      show RPop _ _ _ _ _ _ _ R _ _
      rw [hbad.out rfl]
      exact ⟨rfl, Chg.of_ext _ hXi.out⟩
    ·by_cases h116 : b8 = 116
     ·subst h116
      rw [show ((116 : UInt8).toNat : Int) = 116 from rfl] at hidx
      cases tr
      ·go_wp2_with fail
       go_ret2
       show RPop _ _ _ _ _ _ _ R _ _
       rw [hbad.out rfl]
       exact ⟨rfl, Chg.of_ext _ hXi.out⟩
      ·go_wp2_with fail
       go_roundw
       case rel => exact ⟨pos + 1, by omega, by go_num, hidden (hok2.out rfl), hEr⟩
       case measure => simp [intOf]; omega
     ·have h1 : ((b8.toNat : Int) == 110) = false := by
       simp only [beq_eq_false_iff_ne, ne_eq]
       intro e
       exact h110 (UInt8.toNat_inj.1 (by have : b8.toNat = 110 := by omega
                                         rw [this]; rfl))
      have h2 : ((b8.toNat : Int) == 116) = false := by
       simp only [beq_eq_false_iff_ne, ne_eq]
       intro e
       exact h116 (UInt8.toNat_inj.1 (by have : b8.toNat = 116 := by omega
                                         rw [this]; rfl))
      have h3 : ok1 b8 (x, tr) = true := by unfold ok1; rw [if_neg h110, if_neg h116]
      obtain ⟨rn, hrn⟩ : ∃ rn : Int, (b8.toNat : Int) = rn := ⟨_, rfl⟩
      rw [hrn] at hidx h1 h2
      clear hrn h110 h116
      go_wp2_with fail
      go_roundw
      case rel => exact ⟨pos + 1, by omega, by go_num, hidden (hok2.out h3), hEr⟩
      case measure => simp [intOf]; omega
   ·have hpk : ¬ (pos : Int) < (k : Int) := by omega
    obtain ⟨W1, hWW⟩ : ∃ Z, Z = wr := ⟨_, rfl⟩
    subst hWW
    have hXi := hidden (hX4.out.trans hEr.out)
    have l9 := hXi.out.cell c0.out
    have n9 := ((Ext.refl W1).alloc (.cells #[] 147)).cell l9
    have XE1 := hXi.out.alloc (.cells #[] 147)
    have hO1 := hidden (own_zero' hXi.out 147 2)
    have hRd3 := hidden (Rd.ext hRow2I.out XE1)
    have XE1I := hidden XE1
    have hRok : Hid (R = .ok (L, T)) := by
     show _ = _
     rw [← hR.out, tyOk_true _ _ (fun j t v ht hv => hok.out j (by have := (List.getElem?_eq_some_iff.1 ht).1; rw [hkl.out] at this; omega) t v ht hv)]
     rfl
    clear XE1
    have hcut := hcutI.out
    go_upto_region 13 with (at_builtin; refine wpList_append_rd (by rfl) _ _ 86 (by rfl) w.heap.size 147 i0 (.agg #[.bool false, .int .u32 0]) 2 8 Tryz.underlying86 hia.out hz0 hz1 hz2 rfl (by decide) (.slice (some ⟨W1.heap.size, 0, none⟩) 0 0) 0 [] (by rfl) hO1.out av m cv (T.flatMap vcR) (by rfl) hRd3.out (vcR_one _) (by unfold maxLen; omega) (by omega) (by have := XE1I.out.size; omega) ?_; intro v' w5 hown5 hgrow5 hat5; rw [Nat.zero_add, List.nil_append] at hown5; obtain ⟨a5, c5, rfl, -⟩ := own_shape hown5; have hX5 := hidden ((Chg.of_ext [] XE1I.out).grown hgrow5 (fun k hk => Or.inr (own_lt hO1.out hk).1)).ext; have hO5 := hidden hown5; have hX15 := hidden ((Chg.of_ext [] ((Ext.refl W1).alloc (.cells #[] 147))).grown hgrow5 (fun k hk => Or.inr (own_lt (own_zero W1 147 2) hk).1)).ext; have y9 := hX5.out.cell c0.out; have yf := (hM.out.blk.ext hX5.out).frozen 9; clear hown5 hgrow5 hat5)
    obtain ⟨m1, m2, m3⟩ := hM.out.newRow (i := 2) (j := 9) (r' := ⟨147, 2, .slice a5 m c5, T.length, T.flatMap vcR⟩) (V' := { V with st := .slice a5 m c5 }) (s' := { s with st := T }) rfl hX5.out (by unfold Row.own; simp only; rw [hTl.out]; exact own_mono hO5.out hB) (fun x hx => (own_lt hO5.out hx).1) rfl hM.out.al rfl
    simp only at m1 m2
    have hqw := hM.out.rows.q1
    have hRl := Rd.of_own (own_chg (own_ext hOl.out (hEr.out.trans hX15.out)) ((Chg.refl [q] w5).setCell (p := ⟨q, 9, none⟩) (Or.inl (by simp)) (.slice a5 m c5)) (fun x hx hv => by rw [List.mem_singleton.1 hx] at hv; have := (own_lt hOl.out hv).1; omega))
    go_wp2_with fail
    go_ret2
    show RPop _ _ _ _ _ _ _ R _ _
    rw [hRok.out]
    exact ⟨_, _, rfl, by rw [hdl.out]; exact hRl, m1, m2, m3⟩
def PlP (w : World) (B q : Nat) (V : Vs) (X : EV) (E : Env) (r : Except Int (List Vl × MS)) (x : Ending) (w' : World) : Prop :=
 match r with
 | .error e => ∃ v, x = .returned (.tuple #[v, .int .i64 e]) ∧ Chg (SV q V) w w'
 | .ok (l, s') => ∃ v V', x = .returned (.tuple #[v, .int .i64 0]) ∧ Rd w' 2 v l.length (l.flatMap vcR) ∧ MSt LR w' B q V' X E s' ∧ Chg (SV q V) w w' ∧ ToV w.heap.size q V V'
theorem pl_same {w w' : World} {B q : Nat} {V : Vs} {X : EV} {E : Env} {s : MS} {l : List Vl} {v : Value} (h : MSt LR w B q V X E s) (c : Ext w w') (hv : Rd w' 2 v l.length (l.flatMap vcR)) : PlP w B q V X E (.ok (l, s)) (.returned (.tuple #[v, .int .i64 0])) w' :=
 ⟨v, V, rfl, hv, h.ext c, Chg.of_ext _ c, ToV.refl _ _ _⟩
theorem rtruth_any (b : Bool) (w : World) : Calls Tryz.prog 82 #[.bool b] w fun x w' => ∃ v, x = .returned v ∧ w'.ownsRow w.heap.size 147 2 v 1 (vcR (if b = true then 1 else 0, true)) ∧ Ext w w' := by
 have ht := hidden (truth_any b)
 cases b with
 | true =>
  go_enter Tryz.func82, Tryz.ntmps82
  go_wp2_with fail
  refine (ht.out w).mono ?_
  rintro x w1 ⟨rfl, hw1⟩
  try subst hw1
  go_wp2_with fail
  go_ret
  exact ⟨_, rfl, World.ownsRow_lit (base := w.heap.size) (e := 147) (size := 2) w #[.bool true, .int .u32 1] 1 (Nat.le_refl _) (by decide) rfl, (Ext.refl w).alloc _⟩
 | false =>
  go_enter Tryz.func82, Tryz.ntmps82
  go_wp2_with fail
  refine (ht.out w).mono ?_
  rintro x w1 ⟨rfl, hw1⟩
  try subst hw1
  go_wp2_with fail
  go_ret
  exact ⟨_, rfl, World.ownsRow_lit (base := w.heap.size) (e := 147) (size := 2) w #[.bool true, .int .u32 0] 1 (Nat.le_refl _) (by decide) rfl, (Ext.refl w).alloc _⟩
theorem rpl_0 (arg : Int) (w : World) (B q : Nat) (V : Vs) (X : EV) (E : Env) (s : MS) (h : MSt LR w B q V X E s) (hB : B ≤ w.heap.size) (hs : OkS E s) (hE : OkE E) (vl : Value) :
  Calls Tryz.prog 58 #[.pointer (some ⟨q, 0, none⟩), .agg #[.int .i64 0, .int .u32 arg], vl] w (PlP w B q V X E (.ok ([(arg, false)], s))) := by
 obtain ⟨b, hb⟩ := ex w.heap.size
 obtain ⟨W1, hW1, X1, N1⟩ := alx w #[.int .i64 0, .int .u32 arg] [.int .i64 0, .int .u32 arg] 63 b hb
 obtain ⟨n0, n1⟩ := N1.c2
 have hI := hidden h
 have h1 := h.ext X1
 clear hs hE
 have X1I := hidden X1
 replace hW1 := hidden hW1
 clear h h1 X1 N1
 go_enter Tryz.func58, Tryz.ntmps58
 go_upto_region 1 with fail
 rw [hW1.out]
 clear hW1 hb
 go_wp2_with fail
 refine (rnumber_any _ _).mono ?_
 rintro x w2 ⟨v, rfl, hO, hX⟩
 go_wp2_with fail
 go_ret2
 exact pl_same hI.out (X1I.out.trans hX) (Rd.of_own hO)
theorem rpl_6 (arg : Int) (w : World) (B q : Nat) (V : Vs) (X : EV) (E : Env) (s : MS) (h : MSt LR w B q V X E s) (hB : B ≤ w.heap.size) (hs : OkS E s) (hE : OkE E) (vl : Value) :
  Calls Tryz.prog 58 #[.pointer (some ⟨q, 0, none⟩), .agg #[.int .i64 6, .int .u32 arg], vl] w (PlP w B q V X E (.ok ([], s))) := by
 obtain ⟨b, hb⟩ := ex w.heap.size
 obtain ⟨W1, hW1, X1, N1⟩ := alx w #[.int .i64 6, .int .u32 arg] [.int .i64 6, .int .u32 arg] 63 b hb
 obtain ⟨n0, n1⟩ := N1.c2
 have hI := hidden h
 have h1 := h.ext X1
 clear hs hE
 have X1I := hidden X1
 replace hW1 := hidden hW1
 clear h h1 X1 N1
 go_enter Tryz.func58, Tryz.ntmps58
 go_upto_region 1 with fail
 rw [hW1.out]
 clear hW1 hb
 go_wp2_with fail
 go_ret2
 exact pl_same hI.out X1I.out (Rd.nil _ 2)
theorem rpl_32 (arg : Int) (w : World) (B q : Nat) (V : Vs) (X : EV) (E : Env) (s : MS) (h : MSt LR w B q V X E s) (hB : B ≤ w.heap.size) (hs : OkS E s) (hE : OkE E) (vl : Value) :
  Calls Tryz.prog 58 #[.pointer (some ⟨q, 0, none⟩), .agg #[.int .i64 32, .int .u32 arg], vl] w (PlP w B q V X E (.ok ([(E.inp, false)], s))) := by
 obtain ⟨b, hb⟩ := ex w.heap.size
 obtain ⟨W1, hW1, X1, N1⟩ := alx w #[.int .i64 32, .int .u32 arg] [.int .i64 32, .int .u32 arg] 63 b hb
 obtain ⟨n0, n1⟩ := N1.c2
 have hI := hidden h
 have h1 := h.ext X1
 have c4 := h1.cell 4 _ rfl
 clear hs hE
 have X1I := hidden X1
 replace hW1 := hidden hW1
 clear h h1 X1 N1
 go_enter Tryz.func58, Tryz.ntmps58
 go_upto_region 1 with fail
 rw [hW1.out]
 clear hW1 hb
 go_wp2_with fail
 refine (rnumber_any _ _).mono ?_
 rintro x w2 ⟨v, rfl, hO, hX⟩
 go_wp2_with fail
 go_ret2
 exact pl_same hI.out (X1I.out.trans hX) (Rd.of_own hO)
theorem rpl_33 (arg : Int) (w : World) (B q : Nat) (V : Vs) (X : EV) (E : Env) (s : MS) (h : MSt LR w B q V X E s) (hB : B ≤ w.heap.size) (hs : OkS E s) (hE : OkE E) (vl : Value) :
  Calls Tryz.prog 58 #[.pointer (some ⟨q, 0, none⟩), .agg #[.int .i64 33, .int .u32 arg], vl] w (PlP w B q V X E (.ok ([(if E.ended = true then 1 else 0, true)], s))) := by
 obtain ⟨b, hb⟩ := ex w.heap.size
 obtain ⟨W1, hW1, X1, N1⟩ := alx w #[.int .i64 33, .int .u32 arg] [.int .i64 33, .int .u32 arg] 63 b hb
 obtain ⟨n0, n1⟩ := N1.c2
 have hI := hidden h
 have h1 := h.ext X1
 have c5 := h1.cell 5 _ rfl
 obtain ⟨en, hen⟩ := ex E.ended
 rw [hen] at c5 ⊢
 replace hen := hidden hen
 clear hs hE
 have X1I := hidden X1
 replace hW1 := hidden hW1
 clear h h1 X1 N1
 go_enter Tryz.func58, Tryz.ntmps58
 go_upto_region 1 with fail
 rw [hW1.out]
 clear hW1 hb
 cases en with
 | true =>
  go_wp2_with fail
  refine (rtruth_any _ _).mono ?_
  rintro x w2 ⟨v, rfl, hO, hX⟩
  go_wp2_with fail
  go_ret2
  exact pl_same hI.out (X1I.out.trans hX) (Rd.of_own hO)
 | false =>
  go_wp2_with fail
  refine (rtruth_any _ _).mono ?_
  rintro x w2 ⟨v, rfl, hO, hX⟩
  go_wp2_with fail
  go_ret2
  exact pl_same hI.out (X1I.out.trans hX) (Rd.of_own hO)
theorem rpl_5 (arg : Int) (w : World) (B q : Nat) (V : Vs) (X : EV) (E : Env) (s : MS) (h : MSt LR w B q V X E s) (hB : B ≤ w.heap.size) (hs : OkS E s) (hE : OkE E) (x0 : Int) (t0 : Bool) (vl : Value) (hl : Rd w 2 vl 1 ([(x0, t0)].flatMap vcR)) :
  Calls Tryz.prog 58 #[.pointer (some ⟨q, 0, none⟩), .agg #[.int .i64 5, .int .u32 arg], vl] w (PlP w B q V X E (.ok ([(x0, t0), (x0, t0)], s))) := by
 obtain ⟨b, hb⟩ := ex w.heap.size
 obtain ⟨W1, hW1, X1, N1⟩ := alx w #[.int .i64 5, .int .u32 arg] [.int .i64 5, .int .u32 arg] 63 b hb
 obtain ⟨n0, n1⟩ := N1.c2
 have hI := hidden h
 have h1 := h.ext X1
 obtain ⟨lv, lc, rfl, -⟩ := Rd.shape hl
 obtain ⟨lb, lo, rfl, -, -⟩ := Rd.cells hl (by decide)
 have g0 := X1.cell (rd_at hl 0 _ rfl)
 have g1 := X1.cell (rd_at hl 1 _ rfl)
 rw [Nat.add_zero] at g0
 clear hs hE hl
 have X1I := hidden X1
 replace hW1 := hidden hW1
 clear h h1 X1 N1
 go_enter Tryz.func58, Tryz.ntmps58
 go_upto_region 1 with fail
 rw [hW1.out]
 clear hW1 hb
 go_upto_region 22 with fail
 refine wp_region_D (S := fun w' => w'.cell? ⟨lb, lo, none⟩ = some (.bool t0) ∧ w'.cell? ⟨lb, lo + 1, none⟩ = some (.int .u32 x0)) (D := []) (by kernel_rfl) ⟨g0, g1⟩ (fun HS => ?_)
 refine tk 0 [] (.slice (some ⟨lb, lo, none⟩) 1 lc) HS ?_; try simp only [sx]
 refine tk 1 [] (.pointer (some ⟨lb, lo, none⟩)) HS ?_; try simp only [sx]
 refine tk 2 [] (.agg #[.bool t0, .int .u32 x0]) HS ?_; try simp only [sx]
 refine tk 3 [] (.slice (some ⟨lb, lo, none⟩) 1 lc) HS ?_; try simp only [sx]
 refine tk 4 [] (.pointer (some ⟨lb, lo, none⟩)) HS ?_; try simp only [sx]
 refine tk 5 [] (.agg #[.bool t0, .int .u32 x0]) HS ?_; try simp only [sx]
 have XL := (Ext.refl W1).drew.alloc (.cells #[.bool t0, .int .u32 x0, .bool t0, .int .u32 x0] 147)
 have XL2 := (Ext.refl W1.drew).alloc (.cells #[.bool t0, .int .u32 x0, .bool t0, .int .u32 x0] 147)
 have HS2 := And.intro (XL2.cell (HS.1)) (XL2.cell (HS.2))
 refine valueD 6 (.slice (some ⟨W1.heap.size, 0, none⟩) 2 2) rfl rfl (by kernel_rfl) (by rfl) (w' := W1.drew.alloc (.cells #[.bool t0, .int .u32 x0, .bool t0, .int .u32 x0] 147)) (by go_simp) (fun _ => HS2) ?_; try simp only [sx]
 refine valueD 7 (.slice (some ⟨W1.heap.size, 0, none⟩) 2 2) rfl rfl (by kernel_rfl) (by rfl) (w' := W1.drew.alloc (.cells #[.bool t0, .int .u32 x0, .bool t0, .int .u32 x0] 147)) (by go_simp) (fun _ => HS2) ?_; try simp only [sx]
 refine valueD 8 (.int .i64 0) rfl rfl (by kernel_rfl) (by rfl) (w' := W1.drew.alloc (.cells #[.bool t0, .int .u32 x0, .bool t0, .int .u32 x0] 147)) (by go_simp) (fun _ => HS2) ?_; try simp only [sx]
 refine wpAnyD_done (by kernel_rfl) ?_ _
 show _
 go_wp2_with fail
 go_ret2
 exact pl_same hI.out (X1I.out.trans XL) (rd_newc W1.drew [.bool t0, .int .u32 x0, .bool t0, .int .u32 x0] 147 2 2 rfl (by decide))
theorem rpl_7 (arg : Int) (w : World) (B q : Nat) (V : Vs) (X : EV) (E : Env) (s : MS) (h : MSt LR w B q V X E s) (hB : B ≤ w.heap.size) (hs : OkS E s) (hE : OkE E) (x0 x1 : Int) (t0 t1 : Bool) (vl : Value) (hl : Rd w 2 vl 2 ([(x0, t0), (x1, t1)].flatMap vcR)) :
  Calls Tryz.prog 58 #[.pointer (some ⟨q, 0, none⟩), .agg #[.int .i64 7, .int .u32 arg], vl] w (PlP w B q V X E (.ok ([(x1, t1), (x0, t0)], s))) := by
 obtain ⟨b, hb⟩ := ex w.heap.size
 obtain ⟨W1, hW1, X1, N1⟩ := alx w #[.int .i64 7, .int .u32 arg] [.int .i64 7, .int .u32 arg] 63 b hb
 obtain ⟨n0, n1⟩ := N1.c2
 have hI := hidden h
 have h1 := h.ext X1
 obtain ⟨lv, lc, rfl, -⟩ := Rd.shape hl
 obtain ⟨lb, lo, rfl, -, -⟩ := Rd.cells hl (by decide)
 have g0 := X1.cell (rd_at hl 0 _ rfl)
 have g1 := X1.cell (rd_at hl 1 _ rfl)
 have g2 := X1.cell (rd_at hl 2 _ rfl)
 have g3 := X1.cell (rd_at hl 3 _ rfl)
 rw [Nat.add_zero] at g0
 clear hs hE hl
 have X1I := hidden X1
 replace hW1 := hidden hW1
 clear h h1 X1 N1
 go_enter Tryz.func58, Tryz.ntmps58
 go_upto_region 1 with fail
 rw [hW1.out]
 clear hW1 hb
 go_upto_region 26 with fail
 refine wp_region_D (S := fun w' => w'.cell? ⟨lb, lo, none⟩ = some (.bool t0) ∧ w'.cell? ⟨lb, lo + 1, none⟩ = some (.int .u32 x0) ∧ w'.cell? ⟨lb, lo + 2, none⟩ = some (.bool t1) ∧ w'.cell? ⟨lb, lo + 3, none⟩ = some (.int .u32 x1)) (D := []) (by kernel_rfl) ⟨g0, g1, g2, g3⟩ (fun HS => ?_)
 refine tk 0 [] (.slice (some ⟨lb, lo, none⟩) 2 lc) HS ?_; try simp only [sx]
 refine tk 1 [] (.pointer (some ⟨lb, lo + 2, none⟩)) HS ?_; try simp only [sx]
 refine tk 2 [] (.agg #[.bool t1, .int .u32 x1]) HS ?_; try simp only [sx]
 refine tk 3 [] (.slice (some ⟨lb, lo, none⟩) 2 lc) HS ?_; try simp only [sx]
 refine tk 4 [] (.pointer (some ⟨lb, lo, none⟩)) HS ?_; try simp only [sx]
 refine tk 5 [] (.agg #[.bool t0, .int .u32 x0]) HS ?_; try simp only [sx]
 have XL := (Ext.refl W1).drew.alloc (.cells #[.bool t1, .int .u32 x1, .bool t0, .int .u32 x0] 147)
 have XL2 := (Ext.refl W1.drew).alloc (.cells #[.bool t1, .int .u32 x1, .bool t0, .int .u32 x0] 147)
 have HS2 := And.intro (XL2.cell (HS.1)) (And.intro (XL2.cell (HS.2.1)) (And.intro (XL2.cell (HS.2.2.1)) (XL2.cell (HS.2.2.2))))
 refine valueD 6 (.slice (some ⟨W1.heap.size, 0, none⟩) 2 2) rfl rfl (by kernel_rfl) (by rfl) (w' := W1.drew.alloc (.cells #[.bool t1, .int .u32 x1, .bool t0, .int .u32 x0] 147)) (by go_simp) (fun _ => HS2) ?_; try simp only [sx]
 refine valueD 7 (.slice (some ⟨W1.heap.size, 0, none⟩) 2 2) rfl rfl (by kernel_rfl) (by rfl) (w' := W1.drew.alloc (.cells #[.bool t1, .int .u32 x1, .bool t0, .int .u32 x0] 147)) (by go_simp) (fun _ => HS2) ?_; try simp only [sx]
 refine valueD 8 (.int .i64 0) rfl rfl (by kernel_rfl) (by rfl) (w' := W1.drew.alloc (.cells #[.bool t1, .int .u32 x1, .bool t0, .int .u32 x0] 147)) (by go_simp) (fun _ => HS2) ?_; try simp only [sx]
 refine wpAnyD_done (by kernel_rfl) ?_ _
 show _
 go_wp2_with fail
 go_ret2
 exact pl_same hI.out (X1I.out.trans XL) (rd_newc W1.drew [.bool t1, .int .u32 x1, .bool t0, .int .u32 x0] 147 2 2 rfl (by decide))
theorem rpl_1 (k : Nat) (w : World) (B q : Nat) (V : Vs) (X : EV) (E : Env) (s : MS) (h : MSt LR w B q V X E s) (hB : B ≤ w.heap.size) (hs : OkS E s) (hE : OkE E) (vl : Value) (hk : k < s.lo.length) :
  Calls Tryz.prog 58 #[.pointer (some ⟨q, 0, none⟩), .agg #[.int .i64 1, .int .u32 (k : Int)], vl] w (PlP w B q V X E (.ok ([(s.lo.getD k 0, false)], s))) := by
 obtain ⟨b, hb⟩ := ex w.heap.size
 obtain ⟨W1, hW1, X1, N1⟩ := alx w #[.int .i64 1, .int .u32 (k : Int)] [.int .i64 1, .int .u32 (k : Int)] 63 b hb
 obtain ⟨n0, n1⟩ := N1.c2
 have hI := hidden h
 have h1 := h.ext X1
 obtain ⟨g, cap, hv, hg1, hg2, hcap, hc⟩ := arow_cell (h1.row 4 _ rfl) hk
 have hown := h1.row 4 _ rfl
 have hf := arow_frozen (k := k) (by have := hown; unfold Row.own arow at this; simp only at this; rw [hv] at this; exact this)
 have c := h1.cell 10 _ rfl
 rw [hv] at c
 obtain ⟨y, hy⟩ := ex (s.lo.getD k 0)
 obtain ⟨n, hn⟩ := ex s.lo.length
 rw [hn] at c hk hcap
 rw [hy] at hc
 have hk2 : (k : Int) < (n : Int) := by omega
 replace hy := hidden hy
 clear hs hE hn hv hown hf hg1 hg2
 have X1I := hidden X1
 replace hW1 := hidden hW1
 clear h h1 X1 N1
 go_enter Tryz.func58, Tryz.ntmps58
 go_upto_region 1 with fail
 rw [hW1.out]
 clear hW1 hb
 go_upto_region 5 with fail
 refine wp_region_D (S := fun w' => w'.cell? ⟨q, 10, none⟩ = some (.slice (some ⟨g, 0, none⟩) n cap) ∧ w'.cell? ⟨b, 1, none⟩ = some (.int .u32 (k : Int)) ∧ w'.cell? ⟨g, k, none⟩ = some (.int .u32 y)) (D := []) (by kernel_rfl) ⟨c, n1, hc⟩ (fun HS => ?_)
 refine tk 0 [] (.pointer (some ⟨q, 0, none⟩)) HS ?_; try simp only [sx]
 refine tk 1 [] (.pointer (some ⟨q, 0, none⟩)) HS ?_; try simp only [sx]
 refine tk 2 [] (.pointer (some ⟨q, 10, none⟩)) HS ?_; try simp only [sx]
 refine tk 3 [] (.slice (some ⟨g, 0, none⟩) n cap) HS ?_; try simp only [sx]
 refine tk 4 [] (.pointer (some ⟨b, 1, none⟩)) HS ?_; try simp only [sx]
 refine tk 5 [] (.int .u32 (k : Int)) HS ?_; try simp only [sx]
 refine tk 6 [] (.pointer (some ⟨g, k, none⟩)) HS ?_; try simp only [sx]
 refine tk 7 [] (.int .u32 y) HS ?_; try simp only [sx]
 refine callVD 8 81 #[.int .u32 y] rfl rfl (by kernel_rfl) (by rfl) (by go_simp) (rnumber_any y _) ?_
 rintro x w2 ⟨v, rfl, hO, hX⟩
 have HS2 := And.intro (hX.cell (HS.1)) (And.intro (hX.cell (HS.2.1)) (hX.cell (HS.2.2)))
 refine Or.inl ⟨_, rfl, fun _ => HS2, ?_⟩
 try simp only [Act.put, sx]
 refine tk 9 [] (v) HS2 ?_; try simp only [sx]
 refine tk 10 [] (.int .i64 0) HS2 ?_; try simp only [sx]
 refine wpAnyD_done (by kernel_rfl) ?_ _
 show _
 go_wp2_with fail
 go_ret2
 rw [hy.out]
 exact pl_same hI.out (X1I.out.drew.trans hX) (Rd.of_own hO)
theorem rpl_2 (k : Nat) (w : World) (B q : Nat) (V : Vs) (X : EV) (E : Env) (s : MS) (h : MSt LR w B q V X E s) (hB : B ≤ w.heap.size) (hs : OkS E s) (hE : OkE E) (y : Int) (t0 : Bool) (vl : Value) (hl : Rd w 2 vl 1 ([(y, t0)].flatMap vcR)) (hk : k < s.lo.length) :
  Calls Tryz.prog 58 #[.pointer (some ⟨q, 0, none⟩), .agg #[.int .i64 2, .int .u32 (k : Int)], vl] w (PlP w B q V X E (.ok ([], { s with lo := s.lo.set k y }))) := by
 obtain ⟨b, hb⟩ := ex w.heap.size
 obtain ⟨W1, hW1, X1, N1⟩ := alx w #[.int .i64 2, .int .u32 (k : Int)] [.int .i64 2, .int .u32 (k : Int)] 63 b hb
 obtain ⟨n0, n1⟩ := N1.c2
 have hI := hidden h
 have h1 := h.ext X1
 obtain ⟨lv, lc, rfl, -⟩ := Rd.shape hl
 obtain ⟨lb, lo, rfl, -, -⟩ := Rd.cells hl (by decide)
 have g1 := X1.cell (rd_at hl 1 _ rfl)
 obtain ⟨g, cap, hv, hg1, hg2, hcap, hc⟩ := arow_cell (h1.row 4 _ rfl) hk
 have hown := h1.row 4 _ rfl
 have hf := arow_frozen (k := k) (by have := hown; unfold Row.own arow at this; simp only at this; rw [hv] at this; exact this)
 have c := h1.cell 10 _ rfl
 rw [hv] at c
 obtain ⟨m1, m2⟩ := (h1.ext (Ext.refl W1).drew).cellr (i := 4) (g := g) (cap := cap) (n := s.lo.length) (sz := 1) (t := 42) (cs := s.lo.map (Value.int .u32)) (s' := { s with lo := s.lo.set k y }) (by rw [← hv]; rfl) k (.int .u32 y) (by unfold rowsG arow; simp only [List.map_set, List.length_set]; rw [hv]; rfl) rfl rfl
 obtain ⟨n, hn⟩ := ex s.lo.length
 rw [hn] at c hk hcap
 have hk2 : (k : Int) < (n : Int) := by omega
 replace m1 := hidden m1
 replace m2 := hidden m2
 clear hs hE hn hv hown hg1 hg2 hl
 have X1I := hidden X1
 replace hW1 := hidden hW1
 clear h h1 X1 N1
 go_enter Tryz.func58, Tryz.ntmps58
 go_upto_region 1 with fail
 rw [hW1.out]
 clear hW1 hb
 go_upto_region 7 with fail
 refine wp_region_D (S := fun w' => w'.cell? ⟨q, 10, none⟩ = some (.slice (some ⟨g, 0, none⟩) n cap) ∧ w'.cell? ⟨b, 1, none⟩ = some (.int .u32 (k : Int)) ∧ w'.cell? ⟨lb, lo + 1, none⟩ = some (.int .u32 y)) (D := [11]) (by kernel_rfl) ⟨c, n1, g1⟩ (fun HS => ?_)
 refine tk 0 [1, 2, 3, 10, 11] (.pointer (some ⟨q, 0, none⟩)) HS ?_; try simp only [sx]
 refine tk 1 [2, 3, 10, 11] (.pointer (some ⟨q, 0, none⟩)) HS ?_; try simp only [sx]
 refine tk 2 [3, 10, 11] (.pointer (some ⟨q, 10, none⟩)) HS ?_; try simp only [sx]
 refine tk 3 [10, 11] (.slice (some ⟨g, 0, none⟩) n cap) HS ?_; try simp only [sx]
 refine tk 4 [5, 10, 11] (.pointer (some ⟨b, 1, none⟩)) HS ?_; try simp only [sx]
 refine tk 5 [10, 11] (.int .u32 (k : Int)) HS ?_; try simp only [sx]
 refine tk 6 [7, 8, 9, 10, 11] (.slice (some ⟨lb, lo, none⟩) 1 lc) HS ?_; try simp only [sx]
 refine tk 7 [8, 9, 10, 11] (.pointer (some ⟨lb, lo, none⟩)) HS ?_; try simp only [sx]
 refine tk 8 [9, 10, 11] (.pointer (some ⟨lb, lo + 1, none⟩)) HS ?_; try simp only [sx]
 refine tk 9 [10, 11] (.int .u32 y) HS ?_; try simp only [sx]
 refine tk 10 [11] (.pointer (some ⟨g, k, none⟩)) HS ?_; try simp only [sx]
 have fk2 := (Ext.refl W1).drew.frozen hc hf
 have hc2 := (Ext.refl W1).drew.cell hc
 refine storeD 11 rfl rfl (by kernel_rfl) (by rfl) (w' := W1.drew.setCell ⟨g, k, none⟩ (.int .u32 y)) (by go_simp) (fun h => absurd (by decide) h) ?_
 refine wpAnyD_done (by kernel_rfl) ?_ _
 show _
 go_wp2_with fail
 go_ret2
 exact ⟨_, V, rfl, Rd.nil _ 2, m1.out, (Chg.of_ext _ X1I.out.drew).trans m2.out (fun x hx => Or.inl hx), ToV.refl _ _ _⟩
theorem rpl_35 (k : Nat) (w : World) (B q : Nat) (V : Vs) (X : EV) (E : Env) (s : MS) (h : MSt LR w B q V X E s) (hB : B ≤ w.heap.size) (hs : OkS E s) (hE : OkE E) (y : Int) (t0 : Bool) (vl : Value) (hl : Rd w 2 vl 1 ([(y, t0)].flatMap vcR)) (hk : k < s.cx.length) :
  Calls Tryz.prog 58 #[.pointer (some ⟨q, 0, none⟩), .agg #[.int .i64 35, .int .u32 (k : Int)], vl] w (PlP w B q V X E (.ok ([], { s with cx := s.cx.set k y }))) := by
 obtain ⟨b, hb⟩ := ex w.heap.size
 obtain ⟨W1, hW1, X1, N1⟩ := alx w #[.int .i64 35, .int .u32 (k : Int)] [.int .i64 35, .int .u32 (k : Int)] 63 b hb
 obtain ⟨n0, n1⟩ := N1.c2
 have hI := hidden h
 have h1 := h.ext X1
 obtain ⟨lv, lc, rfl, -⟩ := Rd.shape hl
 obtain ⟨lb, lo, rfl, -, -⟩ := Rd.cells hl (by decide)
 have g1 := X1.cell (rd_at hl 1 _ rfl)
 obtain ⟨g, cap, hv, hg1, hg2, hcap, hc⟩ := arow_cell (h1.row 1 _ rfl) hk
 have hown := h1.row 1 _ rfl
 have hf := arow_frozen (k := k) (by have := hown; unfold Row.own arow at this; simp only at this; rw [hv] at this; exact this)
 have c := h1.cell 8 _ rfl
 rw [hv] at c
 obtain ⟨m1, m2⟩ := (h1.ext (Ext.refl W1).drew).cellr (i := 1) (g := g) (cap := cap) (n := s.cx.length) (sz := 1) (t := 42) (cs := s.cx.map (Value.int .u32)) (s' := { s with cx := s.cx.set k y }) (by rw [← hv]; rfl) k (.int .u32 y) (by unfold rowsG arow; simp only [List.map_set, List.length_set]; rw [hv]; rfl) rfl rfl
 obtain ⟨n, hn⟩ := ex s.cx.length
 rw [hn] at c hk hcap
 have hk2 : (k : Int) < (n : Int) := by omega
 replace m1 := hidden m1
 replace m2 := hidden m2
 clear hs hE hn hv hown hg1 hg2 hl
 have X1I := hidden X1
 replace hW1 := hidden hW1
 clear h h1 X1 N1
 go_enter Tryz.func58, Tryz.ntmps58
 go_upto_region 1 with fail
 rw [hW1.out]
 clear hW1 hb
 go_upto_region 37 with fail
 refine wp_region_D (S := fun w' => w'.cell? ⟨q, 8, none⟩ = some (.slice (some ⟨g, 0, none⟩) n cap) ∧ w'.cell? ⟨b, 1, none⟩ = some (.int .u32 (k : Int)) ∧ w'.cell? ⟨lb, lo + 1, none⟩ = some (.int .u32 y)) (D := [12]) (by kernel_rfl) ⟨c, n1, g1⟩ (fun HS => ?_)
 refine tk 0 [1, 2, 3, 4, 11, 12] (.pointer (some ⟨q, 0, none⟩)) HS ?_; try simp only [sx]
 refine tk 1 [2, 3, 4, 11, 12] (.pointer (some ⟨q, 0, none⟩)) HS ?_; try simp only [sx]
 refine tk 2 [3, 4, 11, 12] (.pointer (some ⟨q, 7, none⟩)) HS ?_; try simp only [sx]
 refine tk 3 [4, 11, 12] (.pointer (some ⟨q, 8, none⟩)) HS ?_; try simp only [sx]
 refine tk 4 [11, 12] (.slice (some ⟨g, 0, none⟩) n cap) HS ?_; try simp only [sx]
 refine tk 5 [6, 11, 12] (.pointer (some ⟨b, 1, none⟩)) HS ?_; try simp only [sx]
 refine tk 6 [11, 12] (.int .u32 (k : Int)) HS ?_; try simp only [sx]
 refine tk 7 [8, 9, 10, 11, 12] (.slice (some ⟨lb, lo, none⟩) 1 lc) HS ?_; try simp only [sx]
 refine tk 8 [9, 10, 11, 12] (.pointer (some ⟨lb, lo, none⟩)) HS ?_; try simp only [sx]
 refine tk 9 [10, 11, 12] (.pointer (some ⟨lb, lo + 1, none⟩)) HS ?_; try simp only [sx]
 refine tk 10 [11, 12] (.int .u32 y) HS ?_; try simp only [sx]
 refine tk 11 [12] (.pointer (some ⟨g, k, none⟩)) HS ?_; try simp only [sx]
 have fk2 := (Ext.refl W1).drew.frozen hc hf
 have hc2 := (Ext.refl W1).drew.cell hc
 refine storeD 12 rfl rfl (by kernel_rfl) (by rfl) (w' := W1.drew.setCell ⟨g, k, none⟩ (.int .u32 y)) (by go_simp) (fun h => absurd (by decide) h) ?_
 refine wpAnyD_done (by kernel_rfl) ?_ _
 show _
 go_wp2_with fail
 go_ret2
 exact ⟨_, V, rfl, Rd.nil _ 2, m1.out, (Chg.of_ext _ X1I.out.drew).trans m2.out (fun x hx => Or.inl hx), ToV.refl _ _ _⟩
end Go.Proofs.YtgjjklajipekdaaGreat
