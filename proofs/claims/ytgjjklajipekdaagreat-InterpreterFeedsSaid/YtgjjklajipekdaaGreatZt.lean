
import Derived.Test.YtgjjklajipekdaaGreatZn
import Derived.Test.YtgjjklajipekdaaGreatZs
import Derived.Test.YtgjjklajipekdaaGreatXf
import Derived.Test.YtgjjklajipekdaaGreatKc
import Derived.Test.YtgjjklajipekdaaGreatZp
namespace Go.Proofs.YtgjjklajipekdaaGreat
set_option maxHeartbeats 16000000
set_option maxRecDepth 100000
open Go.RowKit
set_option linter.unusedVariables false
set_option linter.unusedSimpArgs false
attribute [local go_sem ↓] Go.wp_at_zero Go.wp_at_succ
theorem RowsL.low {w : World} {B B' q : Nat} {L : List Row} (h : RowsL w B q L) (hb : B' ≤ B) : RowsL w B' q L := ⟨fun u hu => own_mono (h.own u hu) hb, h.nodup, Nat.le_trans hb h.q0, h.q1⟩
theorem rcopy_any (w : World) (va vc : Value) (ar : List (List Int)) (cx : List Int) (h : MemR w va vc ar cx) (hn8 : ar.length ≤ 100000) (hal : ∀ a ∈ ar, a.length ≤ 100000) (hcx : cx.length ≤ 100000) :
  Calls Tryz.prog 41 #[.agg #[va, vc]] w (CopPost w ar cx) := by
 obtain ⟨i1, hi1, hy0, hy1, hy2⟩ := info_parts sl32_info
 have hib := hidden hi1
 obtain ⟨i0, hi, hz0, hz1, hz2⟩ := info_parts u32_info
 have hia := hidden hi
 obtain ⟨vs0, hr, hrs, hrc⟩ := h
 obtain ⟨aa, ca, rfl, hca, hca2, -⟩ := Rd.shape hr
 obtain ⟨ac, cc, rfl, hcc, -, -⟩ := Rd.shape hrc
 obtain ⟨n, hn⟩ := ex ar.length
 obtain ⟨m, hm⟩ := ex cx.length
 rw [hn] at hca hn8 hr
 rw [hm] at hcc hcx hrc
 rw [hn, hm]
 have XW := ((Ext.refl w).alloc (.cells #[.slice aa n ca, .slice ac m cc] 29)).alloc (.cells #[.slice none 0 0, .slice none 0 0] 29)
 have BW : Blk ((w.alloc (.cells #[.slice aa n ca, .slice ac m cc] 29)).alloc (.cells #[.slice none 0 0, .slice none 0 0] 29)) w.heap.size 29 [.slice aa n ca, .slice ac m cc] := (Blk.new w [.slice aa n ca, .slice ac m cc] 29).alloc (.cells #[.slice none 0 0, .slice none 0 0] 29)
 have BR : Blk ((w.alloc (.cells #[.slice aa n ca, .slice ac m cc] 29)).alloc (.cells #[.slice none 0 0, .slice none 0 0] 29)) (w.heap.size + 1) 29 [.slice none 0 0, .slice none 0 0] := blk_at1 (w.alloc (.cells #[.slice aa n ca, .slice ac m cc] 29)) [.slice none 0 0, .slice none 0 0] 29 (w.heap.size + 1) (Array.size_push ..)
 replace hn := hidden hn
 replace hm := hidden hm
 clear hi hi1
 go_enter Tryz.func41, Tryz.ntmps41
 go_upto_region 1 with fail
 obtain ⟨W, hW⟩ := ex (((w.alloc (.cells #[.slice aa n ca, .slice ac m cc] 29)).alloc (.cells #[.slice none 0 0, .slice none 0 0] 29)))
 rw [hW] at XW BW BR ⊢
 have hzW := BR.lt
 have XA := (Ext.refl W).alloc (.cells #[] 42)
 have HR := hidden (show Rd (W.alloc (.cells #[] 42)) 1 (.slice ac m cc) m (cx.map (Value.int .u32)) by have := hrc.ext (XW.trans XA); unfold R32 at this; rw [hm.out] at this; exact this)
 have HO := hidden (own_zero W 42 1)
 have hrW := hidden (hr.ext XW)
 have hrsW := hidden (fun i v a hv ha => (hrs i v a hv ha).ext XW)
 have b0W := BW.cell 0 _ rfl
 have b1 := XA.cell (BW.cell 1 _ rfl)
 obtain ⟨z, hz⟩ := ex w.heap.size
 rw [hz] at BR b0W b1 hzW ⊢
 have hXW := hidden XW
 have BRI := hidden BR
 replace hW := hidden hW
 have hzI := hidden hz
 clear hr hrs hrc XW BW BR hz
 go_upto_region 2 with (at_builtin; refine wpList_append_rd (by rfl) _ _ 27 (by rfl) W.heap.size 42 i0 (.int .u32 0) 1 4 Tryz.underlying27 hia.out hz0 hz1 hz2 rfl (by decide) (.slice (some ⟨W.heap.size, 0, none⟩) 0 0) 0 [] (by rfl) HO.out ac m cc (cx.map (Value.int .u32)) (by rfl) HR.out (by simp [Value.oneCell']) (by unfold maxLen; omega) (by omega) (by simp) ?_; intro v' w1 hown1 hgrow1 hat1; rw [Nat.zero_add, List.nil_append] at hown1; obtain ⟨acc, ccc, rfl, -⟩ := own_shape hown1; have hX1 := hidden ((Chg.of_ext [] XA).grown hgrow1 (fun k hk => Or.inr (own_lt HO.out hk).1)).ext; clear hgrow1 hat1)
 have hBp : Blk (w1.alloc (.cells #[.slice none 0 0, .slice acc m ccc] 29)) w1.heap.size 29 [.slice none 0 0, .slice acc m ccc] := Blk.new w1 [.slice none 0 0, .slice acc m ccc] 29
 have hpw := hX1.out.size
 have hrows : RowsL (w1.alloc (.cells #[.slice none 0 0, .slice acc m ccc] 29)) W.heap.size w1.heap.size (memRows (.slice none 0 0) (.slice acc m ccc) [] [] cx) := by
  refine ⟨?_, ?_, hpw, by simp⟩
  ·intro r hr
   simp only [memRows, List.zipWith_nil_left, List.append_nil, List.mem_cons, List.not_mem_nil, or_false] at hr
   rcases hr with rfl | rfl
   ·exact World.ownsRow_nil _ _ _ _
   ·unfold Row.own arow
    simp only
    rw [hm.out]
    exact own_ext hown1 ((Ext.refl w1).alloc _)
  ·have hb : ∀ x, (Value.slice acc m ccc).ownBlock = some x → x < w1.heap.size := fun x hx => (own_lt hown1 hx).2
   simp only [memRows, List.zipWith_nil_left, List.append_nil, blks, arow, List.flatMap_cons, List.flatMap_nil]
   rw [show (Value.slice none 0 0).ownBlock = none from rfl]
   cases hq : (Value.slice acc m ccc).ownBlock with
   | none => simp
   | some x => have := hb x hq; simp; omega
 have hE0 := hidden (hX1.out.alloc (.cells #[.slice none 0 0, .slice acc m ccc] 29))
 obtain ⟨p, hp⟩ := ex w1.heap.size
 rw [hp] at hBp hpw hrows ⊢
 replace hrows := hidden hrows
 replace hBp := hidden hBp
 replace hp := hidden hp
 clear hown1 b1 XA
 go_wp2_with fail
 go_loopw [4] (fun ix wr => ∃ k : Nat, k ≤ n ∧ ix = .int .i64 (k : Int) ∧ ∃ (al : Option Addr) (cl : Nat) (vs : List Value), Hid (RowsL wr W.heap.size p (memRows (.slice al k cl) (.slice acc m ccc) vs (ar.take k) cx)) ∧ Hid (vs.length = k) ∧ Hid (Blk wr p 29 [.slice al k cl, .slice acc m ccc]) ∧ Hid (Ext W wr)) (fun ix _ => (n - intOf ix).toNat)
 case atStart => exact ⟨0, by omega, rfl, none, 0, [], hrows, hidden rfl, hBp, hE0⟩
 case round =>
  obtain ⟨k, hk, rfl, al, cl, vs, hrows, hvl, hblk, hext⟩ := hrel
  by_cases hlt : k < n
  ·have hlt' : (k : Int) < (n : Int) := by omega
   obtain ⟨b, off, rfl, -, -⟩ := hrW.out.cells (by omega)
   obtain ⟨vk, hvk⟩ : ∃ v, vs0[k]? = some v := ⟨_, List.getElem?_eq_getElem (by have := hrW.out.len; omega)⟩
   obtain ⟨a, hak⟩ : ∃ a, ar[k]? = some a := ⟨_, List.getElem?_eq_getElem (by rw [hn.out]; exact hlt)⟩
   have hra : R32 wr vk a := (hrsW.out k vk a hvk hak).ext hext.out
   have hala := hal a (List.mem_of_getElem? hak)
   have xW := rd_at hrW.out k vk hvk
   obtain ⟨ak, ck, rfl, hck, hck2, -⟩ := Rd.shape hra
   have x0 := hext.out.cell xW
   have b0 := hext.out.cell b0W
   have hbW := hidden b0W
   have hxW := hidden xW
   have hraI := hidden hra
   clear hra
   have hra := hraI
   have d0 := hblk.out.cell 0 _ rfl
   have hrow := hidden (show wr.ownsRow W.heap.size 27 1 (.slice al k cl) k vs by
    have := hrows.out.own _ (List.mem_of_getElem? (i := 0) rfl)
    unfold Row.own at this
    simp only [List.length_take] at this
    rw [show min k ar.length = k by rw [hn.out]; omega] at this
    exact this)
   have hbase := hidden hext.out.size
   have hkn8 : k < 100000 := by omega
   have hlen2 : k < ar.length := by rw [hn.out]; exact hlt
   have hlk2 := hvl.out
   have hcap := own_shape hrow.out
   clear hraI b0W xW
   go_upto_region 5 with fail
   refine wp_region_D (S := fun w' => w'.cell? ⟨p, 0, none⟩ = some (.slice al k cl) ∧ w'.cell? ⟨z, 0, none⟩ = some (.slice (some ⟨b, off, none⟩) n ca) ∧ w'.cell? ⟨b, off + k, none⟩ = some (.slice ak a.length ck)) (D := [12]) (by kernel_rfl) ⟨d0, b0, x0⟩ (fun HS => ?_)
   refine tk 0 [1, 10, 11, 12] (.pointer (some ⟨p, 0, none⟩)) HS ?_; try simp only [sx]
   refine tk 1 [10, 11, 12] (.slice al k cl) HS ?_; try simp only [sx]
   refine tk 3 [4, 6, 7, 8, 9, 10, 11, 12] (.pointer (some ⟨z, 0, none⟩)) HS ?_; try simp only [sx]
   refine tk 4 [6, 7, 8, 9, 10, 11, 12] (.slice (some ⟨b, off, none⟩) n ca) HS ?_; try simp only [sx]
   refine tk 5 [6, 7, 8, 9, 10, 11, 12] (.int .i64 (k : Int)) HS ?_; try simp only [sx]
   refine tk 6 [7, 8, 9, 10, 11, 12] (.pointer (some ⟨b, off + k, none⟩)) HS ?_; try simp only [sx]
   refine tk 7 [8, 9, 10, 11, 12] (.slice ak a.length ck) HS ?_; try simp only [sx]
   have XA := (Ext.refl wr).drew.alloc (.cells #[] 42)
   have XA' := (Ext.refl wr.drew).alloc (.cells #[] 42)
   have HSa := hidden (And.intro (XA'.cell (HS.1)) (And.intro (XA'.cell (HS.2.1)) (XA'.cell (HS.2.2))))
   have hO0 := hidden (own_zero wr.drew 42 1)
   have HRa := hidden (show Rd (wr.drew.alloc (.cells #[] 42)) 1 (.slice ak a.length ck) a.length (a.map (Value.int .u32)) from Rd.ext hra.out XA)
   refine valueD 2 (.slice (some ⟨wr.heap.size, 0, none⟩) 0 0) rfl rfl (by kernel_rfl) (by rfl) (w' := wr.drew.alloc (.cells #[] 42)) (by go_simp) (fun _ => HSa.out) ?_; try simp only [sx]
   refine appendD0 8 rfl rfl rfl (by kernel_rfl) _ _ 27 (by rfl) wr.heap.size 42 i0 (.int .u32 0) 1 4 Tryz.underlying27 hia.out hz0 hz1 hz2 rfl (by decide) (.slice (some ⟨wr.heap.size, 0, none⟩) 0 0) 0 [] (by rfl) hO0.out ak a.length ck (a.map (Value.int .u32)) (by rfl) HRa.out (by simp [Value.oneCell']) (by unfold maxLen; omega) (by omega) (by simp) ?_
   intro v' w2 hO2' hgrow2 hat2
   rw [Nat.zero_add, List.nil_append] at hO2'
   obtain ⟨av', cv', rfl, -⟩ := own_shape hO2'
   have hO2 := hO2'
   have hX3 := hidden ((Chg.of_ext [] XA).grown hgrow2 (fun k hk => Or.inr (own_lt hO0.out hk).1)).ext
   clear hO2' hgrow2 hat2 XA XA' HSa
   have e0 := hidden (And.intro (hX3.out.cell d0) (And.intro (hX3.out.cell b0) (hX3.out.cell x0)))
   refine ⟨fun _ => e0.out, ?_⟩; try simp only [sx]
   have HOa := hidden (own_ext hrow.out (hX3.out.alloc (.cells #[.slice av' a.length cv'] 27)))
   have HN := hidden (rd_newc w2 [.slice av' a.length cv'] 27 1 1 rfl (by decide))
   have hpush := hidden (hrows.out.push (r := arow (.slice av' a.length cv') a) (hX3.out.alloc (.cells #[.slice av' a.length cv'] 27)) (own_ext (own_mono hO2 hbase.out) ((Ext.refl w2).alloc _)) (fun x hx => (own_lt hO2 hx).1))
   have hBp := hidden (hblk.out.ext (hX3.out.alloc (.cells #[.slice av' a.length cv'] 27)))
   have g0 := hidden (And.intro (((Ext.refl w2).alloc (.cells #[.slice av' a.length cv'] 27)).cell e0.out.1) (And.intro (((Ext.refl w2).alloc (.cells #[.slice av' a.length cv'] 27)).cell e0.out.2.1) (((Ext.refl w2).alloc (.cells #[.slice av' a.length cv'] 27)).cell e0.out.2.2)))
   have hsz2 := hX3.out.size
   clear hO2
   refine valueD 9 (.slice (some ⟨w2.heap.size, 0, none⟩) 1 1) rfl rfl (by kernel_rfl) (by rfl) (w' := w2.alloc (.cells #[.slice av' a.length cv'] 27)) (by go_simp) (fun _ => g0.out) ?_; try simp only [sx]
   refine appendD 10 rfl rfl rfl (by kernel_rfl) _ _ 26 (by rfl) W.heap.size 27 i1 (.slice none 0 0) 1 24 Tryz.underlying26 hib.out hy0 hy1 hy2 rfl (by decide) (.slice al k cl) k vs (by rfl) HOa.out (some ⟨w2.heap.size, 0, none⟩) 1 1 [.slice av' a.length cv'] (by rfl) HN.out (by simp [Value.oneCell']) (by unfold maxLen; omega) (by omega) (by have := hbase.out; simp; omega) (by omega) ?_
   intro v'' w4 hown4 hgrow4 hat4
   obtain ⟨a4, c4, rfl, k41, k42, -⟩ := own_shape hown4
   have c40 : Chg (Value.slice al k cl).ownBlock.toList (w2.alloc (.cells #[.slice av' a.length cv'] 27)) w4 := (Chg.refl _ _).grown hgrow4 (fun k hk => Or.inl (by simp [hk]))
   have hpq : p ∉ (Value.slice al k cl).ownBlock.toList := fun hm => (List.nodup_cons.1 hpush.out.nodup).1 (mem_blks.2 ⟨_, List.mem_of_getElem? (i := 0) rfl, by simpa using hm⟩)
   have hBp4 := hBp.out.chg c40 hpq
   have hfz := hBp4.frozen 0
   obtain ⟨hput, -⟩ := hpush.out.put (i := 0) (r' := ⟨27, 1, .slice a4 (k + 1) c4, k + 1, vs ++ [Value.slice av' a.length cv']⟩) rfl c40 (fun x hx => Or.inr (Or.inl (by simpa using hx))) hown4 (fun x hx => by rcases hat4 with e | e <;> rw [e] at hx; exact Or.inl hx; simp only [Option.some.injEq] at hx; exact Or.inr (by rw [← hx]; exact Nat.le_refl _))
   have hX4 := hidden ((Chg.of_ext [] (hext.out.trans (hX3.out.alloc (.cells #[.slice av' a.length cv'] 27)))).grown hgrow4 (fun k hk => Or.inr (own_lt HOa.out hk).1)).ext
   have f0 := hidden (And.intro (c40.cell hpq g0.out.1) (And.intro (hX4.out.cell hbW.out) (hX4.out.cell hxW.out)))
   replace hput := hidden hput
   replace hBp4 := hidden hBp4
   clear hown4 hgrow4 hat4 HOa HN hpush hBp g0
   refine ⟨fun _ => f0.out, ?_⟩; try simp only [sx]
   refine tk 11 [12] (.pointer (some ⟨p, 0, none⟩)) f0.out ?_; try simp only [sx]
   have ff := f0.out.1
   refine storeD 12 rfl rfl (by kernel_rfl) (by rfl) (w' := w4.setCell ⟨p, 0, none⟩ (.slice a4 (k + 1) c4)) (by go_simp) (fun h => absurd (by decide) h) ?_
   refine wpAnyD_done (by kernel_rfl) ?_ _
   show _
   have c50 : Chg [p] w4 (w4.setCell ⟨p, 0, none⟩ (.slice a4 (k + 1) c4)) := (Chg.refl _ _).setCell (Or.inl (by simp)) _
   have hfin := hput.out.chg c50 (fun x hx hm => by rw [List.mem_singleton.1 hx] at hm; exact (List.nodup_cons.1 hput.out.nodup).1 hm)
   have hlk := hvl.out
   rw [← memRows_snoc _ _ _ _ _ _ _ _ (by rw [List.length_take]; omega) k (by rw [List.length_take]; omega), ← take_snoc' hak] at hfin
   replace hfin := hidden hfin
   have hB5 := hidden (hBp4.out.set 0 (.slice a4 (k + 1) c4))
   have hX5 := hidden (hX4.out.setCell (p := ⟨p, 0, none⟩) hpw (.slice a4 (k + 1) c4))
   go_wp2_with fail
   go_roundw
   case rel => exact ⟨k + 1, by omega, by go_num, _, _, _, hfin, hidden (by simp [hlk]), hB5, hX5⟩
   case measure => simp [intOf] <;> omega
  ·obtain rfl : k = n := by omega
   have hlt' : ¬ ((k : Int) < (k : Int)) := by omega
   have b0 := hext.out.cell b0W
   obtain ⟨d0, d1⟩ := hblk.out.c2
   have hres := hidden (BRI.out.ext hext.out)
   obtain ⟨e0, e1⟩ := hres.out.c2
   obtain ⟨f0, f1⟩ := hres.out.fz2
   go_wp2_with fail
   have c50 : Chg [z + 1] wr ((wr.setCell ⟨z + 1, 0, none⟩ (.slice al k cl)).setCell ⟨z + 1, 1, none⟩ (.slice acc m ccc)) := ((Chg.refl _ _).setCell (Or.inl (by simp)) _).setCell (Or.inl (by simp)) _
   have hR := hrows.out.chg c50 (fun x hx hm => by
    rw [List.mem_singleton.1 hx] at hm
    have := (hrows.out.lt (List.mem_cons_of_mem _ hm)).1
    omega)
   rw [show ar.take k = ar by rw [← hn.out, List.take_length]] at hR
   have hpost : CopPost w ar cx (.returned (.agg #[.slice al k cl, .slice acc m ccc])) ((wr.setCell ⟨z + 1, 0, none⟩ (.slice al k cl)).setCell ⟨z + 1, 1, none⟩ (.slice acc m ccc)) :=
    ⟨_, _, vs, p, rfl, by rw [hvl.out, hn.out], hR.low hXW.out.size, (((hXW.out.trans hext.out).setCell (p := ⟨z + 1, 0, none⟩) (by rw [hzI.out]; exact Nat.le_succ _) _).setCell (p := ⟨z + 1, 1, none⟩) (by rw [hzI.out]; exact Nat.le_succ _) _)⟩
   have pz0 : World.cell? ((wr.setCell ⟨z + 1, 0, none⟩ (.slice al k cl)).setCell ⟨z + 1, 1, none⟩ (.slice acc m ccc)) ⟨z + 1, 0, none⟩ = some (.slice al k cl) := ((hres.out.set 0 (.slice al k cl)).set 1 (.slice acc m ccc)).cell 0 _ rfl
   have pz1 : World.cell? ((wr.setCell ⟨z + 1, 0, none⟩ (.slice al k cl)).setCell ⟨z + 1, 1, none⟩ (.slice acc m ccc)) ⟨z + 1, 1, none⟩ = some (.slice acc m ccc) := ((hres.out.set 0 (.slice al k cl)).set 1 (.slice acc m ccc)).cell 1 _ rfl
   refine bodyPost_ret (v := .agg #[.slice al k cl, .slice acc m ccc]) (by simp [results, Tryz.results41, go_sem, pz0, pz1]) rfl hpost
def errE (E : Env) (ar : List (List Int)) (cx : List Int) : Int :=
 if formE E.A E.L E.C = 0 then (if (pairR E.C).2 = 0 then (if fitsF E.A ar cx = true then (if E.fuel < 0 then 2 else if 281474976710656 < E.fuel then 2 else 0) else 3) else (pairR E.C).2) else formE E.A E.L E.C
theorem rrun_err (va vc ma mc : Value) (E : Env) (ar : List (List Int)) (cx : List Int) (hA : OkA E.A) (hC : OkI E.C) (hL0 : -9223372036854775808 ≤ E.L) (hL1 : E.L ≤ 9223372036854775807)
  (hf0 : -9223372036854775808 ≤ E.fuel) (hf1 : E.fuel ≤ 9223372036854775807) (hal : ∀ a ∈ ar, a.length ≤ 100000) (w : World) (ra : Arr w va E.A) (rc : Cod w vc E.C) (hM : MemR w ma mc ar cx) (he : errE E ar cx ≠ 0) :
  Calls Tryz.prog 20 #[.agg #[va, .int .i64 E.L, vc], .agg #[ma, mc], .agg #[.int .u32 E.inp, .bool E.ended, .int .i64 E.fuel]] w (fun x w' => x = .returned (.tuple #[.agg #[.slice none 0 0, .slice none 0 0, .slice none 0 0, .int .i64 0], .int .i64 (errE E ar cx)]) ∧ Ext w w') := by
 obtain ⟨R, hR⟩ := ex (errE E ar cx)
 rw [hR] at he ⊢
 replace hR := hidden hR
 replace he := hidden he
 obtain ⟨L, hL⟩ := ex E.L
 obtain ⟨inp, hinp⟩ := ex E.inp
 obtain ⟨en, hen⟩ := ex E.ended
 obtain ⟨fu, hfu⟩ := ex E.fuel
 rw [hL, hinp, hen, hfu]
 rw [hfu] at hf0 hf1
 obtain ⟨b, hb⟩ := ex w.heap.size
 obtain ⟨W1, hW1, X1, P1⟩ := alx w #[va, .int .i64 L, vc] [va, .int .i64 L, vc] 25 b hb
 have s1 : W1.heap.size = b + 1 := by rw [← hW1, ← hb]; exact Array.size_push ..
 obtain ⟨W2, hW2, X2, P2⟩ := alx W1 #[ma, mc] [ma, mc] 29 (b + 1) s1
 have s2 : W2.heap.size = b + 2 := by rw [← hW2]; show (W1.heap.push _).size = _; rw [Array.size_push, s1]
 obtain ⟨W3, hW3, X3, P3⟩ := alx W2 #[.int .u32 inp, .bool en, .int .i64 fu] [.int .u32 inp, .bool en, .int .i64 fu] 44 (b + 2) s2
 have s3 : W3.heap.size = b + 3 := by rw [← hW3]; show (W2.heap.push _).size = _; rw [Array.size_push, s2]
 obtain ⟨W4, hW4, X4, P4⟩ := alx W3 #[.slice none 0 0, .slice none 0 0, .slice none 0 0, .int .i64 0] [.slice none 0 0, .slice none 0 0, .slice none 0 0, .int .i64 0] 48 (b + 3) s3
 have s4 : W4.heap.size = b + 4 := by rw [← hW4]; show (W3.heap.push _).size = _; rw [Array.size_push, s3]
 have Y3 := X3.trans X4
 have Y2 := X2.trans Y3
 have XW := hidden (X1.trans Y2)
 have hW : Hid (((((w.alloc (.cells #[va, .int .i64 L, vc] 25)).alloc (.cells #[ma, mc] 29)).alloc (.cells #[.int .u32 inp, .bool en, .int .i64 fu] 44)).alloc (.cells #[.slice none 0 0, .slice none 0 0, .slice none 0 0, .int .i64 0] 48)) = W4) := hidden (by rw [hW1, hW2, hW3, hW4])
 replace P1 := P1.ext Y2
 replace P2 := P2.ext Y3
 replace P3 := P3.ext X4
 obtain ⟨p0, p1, p2⟩ := P1.c3
 obtain ⟨m0, m1⟩ := P2.c2
 obtain ⟨c0, c1, c2⟩ := P3.c3
 clear X1 X2 X3 X4 Y2 Y3 hW1 hW2 hW3 hW4 s1 s2 s3 P1 P2 P3
 clear W1 W2 W3
 have hfo := rform_any va vc E.A E.L E.C hA hC hL0 hL1 W4 (Rd.ext ra XW.out) (Rd.ext rc XW.out)
 rw [hL] at hfo
 have hpa := hidden (fun (W : World) (h : Ext W4 W) => rpartners_any vc E.C W (show Code18 W vc E.C from Rd.ext rc (XW.out.trans h)))
 have hfi := hidden (fun (W : World) (h : Ext W4 W) => rfits_any va ma mc E.A ar cx hal W (Rd.ext ra (XW.out.trans h)) (hM.ext (XW.out.trans h)))
 obtain ⟨fe, hfe⟩ := ex (formE E.A L E.C)
 obtain ⟨pe, hpe⟩ := ex ((pairR E.C).2)
 obtain ⟨ft, hft⟩ := ex (fitsF E.A ar cx)
 rw [hfe] at hfo
 replace hfe := hidden hfe
 replace hpe := hidden hpe
 replace hft := hidden hft
 have raI := hidden ra
 have rcI := hidden rc
 have hMI := hidden hM
 obtain ⟨aa, ca, rfl, -⟩ := Rd.shape ra
 obtain ⟨ac, cc, rfl, -⟩ := Rd.shape rc
 obtain ⟨aM, cM, hma, -⟩ := Rd.shape hM.choose_spec.1
 obtain ⟨aC, cC, hmc, -⟩ := Rd.shape hM.choose_spec.2.2
 subst hma
 subst hmc
 have hbw := hidden (show w.heap.size ≤ b + 3 by omega)
 have s4I := hidden s4
 replace hL := hidden hL
 replace hinp := hidden hinp
 replace hen := hidden hen
 replace hfu := hidden hfu
 replace hfo := hidden hfo
 clear ra rc hM hA hC hL0 hL1 hal
 generalize hla : E.A.length = la at *
 generalize hlc : E.C.length = lc at *
 generalize hlr : ar.length = lr at *
 generalize hlx : cx.length = lx at *
 replace hla := hidden hla
 replace hlc := hidden hlc
 replace hlr := hidden hlr
 replace hlx := hidden hlx
 have P4I := hidden P4
 clear P4 s4
 go_enter Tryz.func20, Tryz.ntmps20
 go_upto_region 1 with fail
 rw [hW.out, show b + 1 + 1 + 1 = b + 3 from rfl, show b + 1 + 1 = b + 2 from rfl]
 clear hb
 go_wp2_with fail
 refine hfo.out.mono ?_
 rintro x w1 ⟨rfl, hX1⟩
 have q0 := hX1.cell p0
 have q1 := hX1.cell p1
 have q2 := hX1.cell p2
 have n0 := hX1.cell m0
 have n1 := hX1.cell m1
 have k0 := hX1.cell c0
 have k1 := hX1.cell c1
 have k2 := hX1.cell c2
 have hX1I := hidden hX1
 clear p0 p1 p2 m0 m1 c0 c1 c2 hX1
 by_cases h0 : fe = 0
 ·subst h0
  go_wp2_with fail
  refine (hpa.out w1 hX1I.out).mono ?_
  rintro x w2 ⟨vp, hx, hO, hX2⟩
  rw [hpe.out] at hx
  subst hx
  have hX2I := hidden (hX1I.out.trans hX2)
  obtain ⟨ap, cp, rfl, -⟩ := own_shape (show w2.ownsRow _ _ _ vp _ _ from hO)
  clear hO
  have u0 := hX2.cell q0
  have u1 := hX2.cell q1
  have u2 := hX2.cell q2
  have v0 := hX2.cell n0
  have v1 := hX2.cell n1
  have x0 := hX2.cell k0
  have x1 := hX2.cell k1
  have x2 := hX2.cell k2
  clear q0 q1 q2 n0 n1 k0 k1 k2
  clear hX2
  generalize (pairR E.C).1.length = lp at *
  by_cases h1 : pe = 0
  ·subst h1
   go_wp2_with fail
   refine (hfi.out w2 hX2I.out).mono ?_
   rintro x w3 ⟨hx, hX3⟩
   rw [hft.out] at hx
   subst hx
   have hX3I := hidden (hX2I.out.trans hX3)
   have k2 := hX3.cell x2
   clear hX3 u0 u1 u2 v0 v1 x0 x1 x2
   cases ft with
   | false =>
    have hRe : R = 3 := by rw [← hR.out]; unfold errE; rw [hL.out, hfe.out, if_pos rfl, hpe.out, if_pos rfl, hft.out, if_neg (by decide)]
    subst hRe
    have B4 := P4I.out.ext hX3I.out
    obtain ⟨f0, f1, f2, f3⟩ := B4.fz4
    obtain ⟨g0, g1, g2, g3⟩ := B4.c4
    have B4I := hidden B4
    have hX4I := hidden (XW.out.trans hX3I.out)
    clear B4
    go_wp2_with fail
    have B5 := set4_blk B4I.out (.slice none 0 0) (.slice none 0 0) (.slice none 0 0) (.int .i64 0)
    obtain ⟨z0, z1, z2, z3⟩ := B5.c4
    refine bodyPost_ret (v := .tuple #[.agg #[.slice none 0 0, .slice none 0 0, .slice none 0 0, .int .i64 0], .int .i64 3]) (by simp [results, Tryz.results20, go_sem, z0, z1, z2, z3]) rfl ?_
    exact ⟨rfl, set4_ext hX4I.out hbw.out _ _ _ _⟩
   | true =>
    by_cases hfr : fu < 0
    ·have hfd : decide (fu < 0) = true := decide_eq_true hfr
     have hRe : R = 2 := by rw [← hR.out]; unfold errE; rw [hL.out, hfe.out, if_pos rfl, hpe.out, if_pos rfl, hft.out, if_pos rfl, hfu.out, if_pos hfr]
     subst hRe
     have B4 := P4I.out.ext hX3I.out
     obtain ⟨f0, f1, f2, f3⟩ := B4.fz4
     obtain ⟨g0, g1, g2, g3⟩ := B4.c4
     have B4I := hidden B4
     have hX4I := hidden (XW.out.trans hX3I.out)
     clear B4
     go_wp2_with fail
     have B5 := set4_blk B4I.out (.slice none 0 0) (.slice none 0 0) (.slice none 0 0) (.int .i64 0)
     obtain ⟨z0, z1, z2, z3⟩ := B5.c4
     refine bodyPost_ret (v := .tuple #[.agg #[.slice none 0 0, .slice none 0 0, .slice none 0 0, .int .i64 0], .int .i64 2]) (by simp [results, Tryz.results20, go_sem, z0, z1, z2, z3]) rfl ?_
     exact ⟨rfl, set4_ext hX4I.out hbw.out _ _ _ _⟩
    ·have hfd1 : decide (fu < 0) = false := decide_eq_false hfr
     by_cases hfs : 281474976710656 < fu
     ·have hfd2 : decide (281474976710656 < fu) = true := decide_eq_true hfs
      have hRe : R = 2 := by rw [← hR.out]; unfold errE; rw [hL.out, hfe.out, if_pos rfl, hpe.out, if_pos rfl, hft.out, if_pos rfl, hfu.out, if_neg hfr, if_pos hfs]
      subst hRe
      have B4 := P4I.out.ext hX3I.out
      obtain ⟨f0, f1, f2, f3⟩ := B4.fz4
      obtain ⟨g0, g1, g2, g3⟩ := B4.c4
      have B4I := hidden B4
      have hX4I := hidden (XW.out.trans hX3I.out)
      clear B4
      go_wp2_with fail
      have B5 := set4_blk B4I.out (.slice none 0 0) (.slice none 0 0) (.slice none 0 0) (.int .i64 0)
      obtain ⟨z0, z1, z2, z3⟩ := B5.c4
      refine bodyPost_ret (v := .tuple #[.agg #[.slice none 0 0, .slice none 0 0, .slice none 0 0, .int .i64 0], .int .i64 2]) (by simp [results, Tryz.results20, go_sem, z0, z1, z2, z3]) rfl ?_
      exact ⟨rfl, set4_ext hX4I.out hbw.out _ _ _ _⟩
     ·exact absurd (by rw [← hR.out]; unfold errE; rw [hL.out, hfe.out, if_pos rfl, hpe.out, if_pos rfl, hft.out, if_pos rfl, hfu.out, if_neg hfr, if_neg hfs]) he.out
  ·have he0 : (pe == 0) = false := by simpa using h1
   have hRe : R = pe := by rw [← hR.out]; unfold errE; rw [hL.out, hfe.out, if_pos rfl, hpe.out, if_neg h1]
   subst hRe
   clear u0 u1 u2 v0 v1 x0 x1 x2
   have B4 := P4I.out.ext hX2I.out
   obtain ⟨f0, f1, f2, f3⟩ := B4.fz4
   obtain ⟨g0, g1, g2, g3⟩ := B4.c4
   have B4I := hidden B4
   have hX4I := hidden (XW.out.trans hX2I.out)
   clear B4
   go_wp2_with fail
   have B5 := set4_blk B4I.out (.slice none 0 0) (.slice none 0 0) (.slice none 0 0) (.int .i64 0)
   obtain ⟨z0, z1, z2, z3⟩ := B5.c4
   refine bodyPost_ret (v := .tuple #[.agg #[.slice none 0 0, .slice none 0 0, .slice none 0 0, .int .i64 0], .int .i64 R]) (by simp [results, Tryz.results20, go_sem, z0, z1, z2, z3]) rfl ?_
   exact ⟨rfl, set4_ext hX4I.out hbw.out _ _ _ _⟩
 ·have he0 : (fe == 0) = false := by simpa using h0
  have hRe : R = fe := by rw [← hR.out]; unfold errE; rw [hL.out, hfe.out, if_neg h0]
  subst hRe
  clear q0 q1 q2 n0 n1 k0 k1 k2
  have B4 := P4I.out.ext hX1I.out
  obtain ⟨f0, f1, f2, f3⟩ := B4.fz4
  obtain ⟨g0, g1, g2, g3⟩ := B4.c4
  have B4I := hidden B4
  have hX4I := hidden (XW.out.trans hX1I.out)
  clear B4
  go_wp2_with fail
  have B5 := set4_blk B4I.out (.slice none 0 0) (.slice none 0 0) (.slice none 0 0) (.int .i64 0)
  obtain ⟨z0, z1, z2, z3⟩ := B5.c4
  refine bodyPost_ret (v := .tuple #[.agg #[.slice none 0 0, .slice none 0 0, .slice none 0 0, .int .i64 0], .int .i64 R]) (by simp [results, Tryz.results20, go_sem, z0, z1, z2, z3]) rfl ?_
  exact ⟨rfl, set4_ext hX4I.out hbw.out _ _ _ _⟩
theorem mst_newR {w : World} {B p q : Nat} {va vc vl : Value} {vs : List Value} {ar : List (List Int)} {cx : List Int} {X : EV} {E : Env} (hR : RowsL w B p (memRows va vc vs ar cx)) (hal : vs.length = ar.length)
  (hlo : (arow vl (List.replicate E.L.toNat 0)).own w B) (hdis : ∀ x, vl.ownBlock = some x → x ∉ blks (memRows va vc vs ar cx)) (hblk : Blk w q LR.tm (mcR ⟨va, vc, .slice none 0 0, .slice none 0 0, vl, .slice none 0 0, vs⟩ X E (startS E ar cx)))
  (hqB : B ≤ q) (hq : q ∉ blks (memRows va vc vs ar cx)) (hql : vl.ownBlock ≠ some q) (henv : EnvM w B X E) : MSt LR w B q ⟨va, vc, .slice none 0 0, .slice none 0 0, vl, .slice none 0 0, vs⟩ X E (startS E ar cx) := by
 refine ⟨hblk, ⟨?_, ?_, hqB, hblk.lt⟩, henv, hal⟩
 ·intro r hr
  simp only [rowsG, startS, List.mem_append, List.mem_cons, List.not_mem_nil, or_false] at hr
  rcases hr with (rfl | rfl | rfl | rfl | rfl | rfl) | hr
  ·exact hR.own _ (List.mem_of_getElem? (i := 0) rfl)
  ·exact hR.own _ (List.mem_of_getElem? (i := 1) rfl)
  ·exact World.ownsRow_nil _ _ _ _
  ·exact World.ownsRow_nil _ _ _ _
  ·exact hlo
  ·exact World.ownsRow_nil _ _ _ _
  ·exact hR.own r (List.mem_append.2 (Or.inr hr))
 ·have hn := hR.nodup
  have e1 : blks (memRows va vc vs ar cx) = va.ownBlock.toList ++ (vc.ownBlock.toList ++ blks (List.zipWith arow vs ar)) := by simp [memRows, blks, arow]
  have e2 : blks (rowsG LR ⟨va, vc, .slice none 0 0, .slice none 0 0, vl, .slice none 0 0, vs⟩ (startS E ar cx)) = va.ownBlock.toList ++ (vc.ownBlock.toList ++ (vl.ownBlock.toList ++ blks (List.zipWith arow vs ar))) := by
   simp [rowsG, blks, arow, startS, show (Value.slice none 0 0).ownBlock = none from rfl]
  have hp : (q :: blks (rowsG LR ⟨va, vc, .slice none 0 0, .slice none 0 0, vl, .slice none 0 0, vs⟩ (startS E ar cx))).Perm (q :: (vl.ownBlock.toList ++ blks (memRows va vc vs ar cx))) := by
   refine List.Perm.cons _ ?_
   rw [e1, e2]
   generalize va.ownBlock.toList = l1
   generalize vc.ownBlock.toList = l2
   generalize vl.ownBlock.toList = l3
   generalize blks (List.zipWith arow vs ar) = l4
   have h1 : (l1 ++ (l2 ++ (l3 ++ l4))).Perm ((l1 ++ l2) ++ (l3 ++ l4)) := by rw [List.append_assoc]
   refine h1.trans ?_
   have h2 : ((l1 ++ l2) ++ (l3 ++ l4)).Perm ((l3 ++ (l1 ++ l2)) ++ l4) := by
    rw [← List.append_assoc]
    exact List.Perm.append_right _ List.perm_append_comm
   refine h2.trans ?_
   rw [List.append_assoc, List.append_assoc]
  rw [hp.nodup_iff, List.nodup_cons, List.nodup_append]
  refine ⟨?_, by cases vl.ownBlock <;> simp, (List.nodup_cons.1 hn).2, ?_⟩
  ·rw [List.mem_append]
   rintro (h | h)
   ·exact hql (by simpa using h)
   ·exact hq h
  ·intro a ha b hb e
   subst e
   exact hdis a (by simpa using ha) hb
theorem rows_memR {w : World} {B q : Nat} {V : Vs} {s : MS} (h : RowsL w B q (rowsG LR V s)) : MemO w B V.arr V.cx s.ar s.cx ∧ w.ownsRow B 5 1 V.out s.out.length (s.out.map (Value.int .u8)) := by
 refine ⟨⟨V.ars, h.own _ (List.mem_of_getElem? (i := 0) rfl), fun i v a hv ha => ?_, h.own (arow V.cx s.cx) (List.mem_of_getElem? (i := 1) rfl)⟩, h.own _ (List.mem_of_getElem? (i := 5) rfl)⟩
 refine h.own (arow v a) (List.mem_of_getElem? (i := i + 6) ?_)
 show (List.zipWith arow V.ars s.ar)[i]? = _
 exact zip_at V.ars s.ar i v a hv ha
theorem MSt.above {Y : Lay} {w0 w w' : World} {B q : Nat} {V : Vs} {X : EV} {E : Env} {s : MS} (h : MSt Y w B q V X E s) (hX : Ext w0 w) (hB : w0.heap.size ≤ B) (c : Chg (SV q V) w w') : Ext w0 w' :=
 ((Chg.of_ext [] hX).trans c (fun x hx => Or.inr (Nat.le_trans hB (h.lt hx).1))).ext
theorem Ne0.if1 (E : Env) (c : Int) (s : MS) : Ne0 (ifR E c s) := by
 unfold ifR
 refine ite_both Ne0 (fun _ => ite_both Ne0 (fun _ => Ne0.stuck) (fun _ => Ne0.go _)) (fun _ => ?_)
 split
 ·exact Ne0.stuck
 ·exact ite_both Ne0 (fun _ => Ne0.go _) (fun _ => ite_both Ne0 (fun _ => ite_both Ne0 (fun _ => Ne0.stuck) (fun _ => Ne0.go _)) (fun _ => Ne0.stuck))
theorem Ne0.end1 (E : Env) (op : Int) (s : MS) : Ne0 (endR E op s) := by
 unfold endR
 split
 ·exact Ne0.stuck
 ·refine ite_both Ne0 (fun _ => Ne0.err (by decide)) (fun _ => ite_both Ne0 (fun _ => ?_) (fun _ => ?_))
  ·split
   ·exact Ne0.stuck
   ·exact Ne0.go _
  ·rw [← exe31 E 0 [] s]; exact ne0_exe
theorem ne0_execR {E : Env} {s : MS} {e : Int} (h : execR E s = .err e) : e ≠ 0 := by
 have : Ne0 (execR E s) := by
  unfold execR
  refine ite_both Ne0 (fun _ => Ne0.end1 _ _ _) (fun _ => ite_both Ne0 (fun _ => Ne0.err (by decide)) (fun _ => ite_both Ne0 (fun _ => Ne0.err (by decide)) (fun _ => ?_)))
  cases hp : popF (opAt (opS E s)).2.1.data.toList s.st (baseF s.fr) with
  | error e => exact Ne0.err (pop_ne0 hp)
  | ok lr =>
   obtain ⟨l, r⟩ := lr
   simp only
   unfold blkR
   exact ite_both Ne0 (fun _ => Ne0.if1 _ _ _) (fun _ => ne0_exe)
 exact this e h
theorem usE_form {A : List (Bool × Int)} {L : Int} {C : List (Int × Int)} (h : formE A L C ≠ 0) : usE A L C = formE A L C := by unfold usE; rw [if_pos h]
theorem usE_pair {A : List (Bool × Int)} {L : Int} {C : List (Int × Int)} (h : formE A L C = 0) : usE A L C = (pairR C).2 := by unfold usE; rw [if_neg (by simpa using h)]
theorem usP_pair {A : List (Bool × Int)} {L : Int} {C : List (Int × Int)} (h : formE A L C = 0) : usP A L C = (pairR C).1 := by unfold usP; rw [if_neg (by simpa using h)]
theorem runR_use {A : List (Bool × Int)} {L : Int} {C : List (Int × Int)} {ar : List (List Int)} {cx : List Int} {inp : Int} {en : Bool} {fu : Int} (h : usE A L C ≠ 0) : runR A L C ar cx inp en fu = .error (usE A L C) := by unfold runR; rw [if_pos h]
theorem runR_fits {A : List (Bool × Int)} {L : Int} {C : List (Int × Int)} {ar : List (List Int)} {cx : List Int} {inp : Int} {en : Bool} {fu : Int} (h : usE A L C = 0) (h2 : fitsF A ar cx = false) : runR A L C ar cx inp en fu = .error 3 := by
 have h3 : chkM A L C ar cx = 3 := by unfold chkM; rw [if_pos (usE_ok h).1, h2]; rfl
 unfold runR
 rw [if_neg (by simpa using h), h3, if_pos (by decide)]
theorem runR_in {A : List (Bool × Int)} {L : Int} {C : List (Int × Int)} {ar : List (List Int)} {cx : List Int} {inp : Int} {en : Bool} {fu : Int} (h : usE A L C = 0) (h2 : fitsF A ar cx = true) : runR A L C ar cx inp en fu = if 0 ≤ fu ∧ fu ≤ 281474976710656 then runF (envOf A L C inp en fu) (startS (envOf A L C inp en fu) ar cx) else .error 2 := by
 have h3 : chkM A L C ar cx = 0 := by unfold chkM; rw [if_pos (usE_ok h).1, h2]; rfl
 unfold runR
 rw [if_neg (by simpa using h), h3, if_neg (by decide)]
end Go.Proofs.YtgjjklajipekdaaGreat
