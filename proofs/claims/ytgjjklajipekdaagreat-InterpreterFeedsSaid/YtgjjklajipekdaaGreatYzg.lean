
import Derived.Test.YtgjjklajipekdaaGreatYp
import Derived.Test.YtgjjklajipekdaaGreatHu
import Derived.Deep.QuietTactic
import Derived.BigQuiet
import Derived.Outline
namespace Go.Proofs.YtgjjklajipekdaaGreat
set_option maxHeartbeats 16000000
set_option maxRecDepth 100000
open Go.RowKit
set_option linter.unusedVariables false
set_option linter.unusedSimpArgs false
attribute [local go_sem ↓] Go.wp_at_zero Go.wp_at_succ
theorem u32_info : (Tryz.prog.info? 42).map (fun i => (i.zero, i.size, i.bytes)) = some (some (.int .u32 0), 1, 4) := by kernel_rfl
theorem sl32_info : (Tryz.prog.info? 27).map (fun i => (i.zero, i.size, i.bytes)) = some (some (.slice none 0 0), 1, 24) := by kernel_rfl
theorem R32.ext {w w' : World} {v : Value} {l : List Int} (h : R32 w v l) (c : Ext w w') : R32 w' v l := Rd.ext h c
theorem arow_rd {w : World} {B : Nat} {v : Value} {a : List Int} (h : (arow v a).own w B) : R32 w v a := Rd.of_own h
theorem iclone32_any (v : Value) (l : List Int) (w : World) (h : R32 w v l) (hl : l.length ≤ 100000) :
  Calls Tryz.prog 67 #[v] w fun x w' => ∃ v', x = .returned v' ∧ (arow v' l).own w' w.heap.size ∧ Ext w w' := by
 obtain ⟨n, hn⟩ := ex l.length
 obtain ⟨a, cap, rfl, hcap, hcap2, hnil⟩ := Rd.shape h
 have qT : ∀ (w : World) (a : Option Addr) (n c n' c' : Nat), (binOp .eql 27 (.slice a n c) (.slice none n' c')).run Tryz.prog w = .ok (.bool a.isNone) w := fun w a n c n' c' => Lib.run_eql_slice_nil w _ _ a n c n' c' Tryz.underlying27
 rw [hn] at hl hcap ⊢
 cases a with
 | none =>
  have hc := hnil rfl
  subst hc
  obtain rfl : n = 0 := by omega
  have hC : l = [] := List.length_eq_zero_iff.1 hn
  subst hC
  clear h hn
  go_enter Tryz.func67, Tryz.ntmps67
  go_wp2_with fail
  go_ret
  exact ⟨_, rfl, ⟨by simp [arow], Or.inl ⟨rfl, rfl⟩⟩, Ext.refl w⟩
 | some ad =>
  obtain ⟨i0, hi, hz0, hz1, hz2⟩ := info_parts u32_info
  have hia := hidden hi
  have HR := hidden (show Rd (w.alloc (.cells #[] 42)) 1 (.slice (some ad) n cap) n (l.map (Value.int .u32)) by have := h.ext ((Ext.refl w).alloc (.cells #[] 42)); unfold R32 at this; rw [hn] at this; exact this)
  have HO := hidden (own_zero w 42 1)
  replace hn := hidden hn
  clear h hi
  go_enter Tryz.func67, Tryz.ntmps67
  go_wp2_with (at_builtin; refine wpList_append_rd (by rfl) _ _ 27 (by rfl) w.heap.size 42 i0 (.int .u32 0) 1 4 Tryz.underlying27 hia.out hz0 hz1 hz2 rfl (by decide) (.slice (some ⟨w.heap.size, 0, none⟩) 0 0) 0 [] (by rfl) HO.out (some ad) n cap (l.map (Value.int .u32)) (by rfl) HR.out (by simp [Value.oneCell']) (by unfold maxLen; omega) (by omega) (by simp) ?_; intro v' w4 hown4 hgrow4 hat4)
  go_ret
  have hX4 : Ext w w4 := ((Chg.of_ext [] ((Ext.refl w).alloc (.cells #[] 42))).grown hgrow4 (fun k hk => Or.inr (own_lt HO.out hk).1)).ext
  refine ⟨_, rfl, ?_, hX4⟩
  unfold Row.own arow
  simp only
  rw [hn.out]
  simpa using hown4
def MemR (w : World) (va vc : Value) (ar : List (List Int)) (cx : List Int) : Prop := ∃ vs : List Value, Rd w 1 va ar.length vs ∧ (∀ (i : Nat) (v : Value) (a : List Int), vs[i]? = some v → ar[i]? = some a → R32 w v a) ∧ R32 w vc cx
theorem MemR.ext {w w' : World} {va vc : Value} {ar : List (List Int)} {cx : List Int} (h : MemR w va vc ar cx) (c : Ext w w') : MemR w' va vc ar cx := by
 obtain ⟨vs, h1, h2, h3⟩ := h
 exact ⟨vs, h1.ext c, fun i v a hv ha => (h2 i v a hv ha).ext c, h3.ext c⟩
theorem RowsL.push {w w1 : World} {B q : Nat} {L : List Row} {r : Row} (h : RowsL w B q L) (c : Ext w w1) (ho : r.own w1 B) (hb : ∀ x, r.v.ownBlock = some x → w.heap.size ≤ x) : RowsL w1 B q (L ++ [r]) := by
 have h1 := h.chg (Chg.of_ext [] c) (by simp)
 refine ⟨fun u hu => ?_, ?_, h.q0, h1.q1⟩
 ·rcases List.mem_append.1 hu with hu | hu
  ·exact h1.own u hu
  ·rw [List.mem_singleton.1 hu]; exact ho
 ·have e : q :: blks (L ++ [r]) = (q :: blks L) ++ r.v.ownBlock.toList := by simp [blks]
  rw [e, List.nodup_append]
  refine ⟨h.nodup, by cases r.v.ownBlock <;> simp, fun a ha b hb2 e => ?_⟩
  subst e
  have := (h.lt ha).2
  have := hb a (by simpa using hb2)
  omega
def memRows (va vc : Value) (vs : List Value) (ar : List (List Int)) (cx : List Int) : List Row := [⟨27, 1, va, ar.length, vs⟩, arow vc cx] ++ List.zipWith arow vs ar
def MemO (w : World) (B : Nat) (va vc : Value) (ar : List (List Int)) (cx : List Int) : Prop := ∃ vs : List Value, w.ownsRow B 27 1 va ar.length vs ∧ (∀ (i : Nat) (v : Value) (a : List Int), vs[i]? = some v → ar[i]? = some a → (arow v a).own w B) ∧ (arow vc cx).own w B
theorem MemO.read {w : World} {B : Nat} {va vc : Value} {ar : List (List Int)} {cx : List Int} (h : MemO w B va vc ar cx) : MemR w va vc ar cx := by
 obtain ⟨vs, h1, h2, h3⟩ := h
 exact ⟨vs, Rd.of_own h1, fun i v a hv ha => arow_rd (h2 i v a hv ha), arow_rd h3⟩
theorem own_low {w w' : World} {B n sz : Nat} {e : TypeId} {v : Value} {cs : List Value} {S : List Nat} (h : w.ownsRow B e sz v n cs) (c : Chg S w w') (hS : ∀ x ∈ S, x < B) : w'.ownsRow B e sz v n cs :=
 own_chg h c (fun x hx e => by have h1 := (own_lt h e).1; have h2 := hS x hx; omega)
theorem MemO.chg {w w' : World} {B : Nat} {va vc : Value} {ar : List (List Int)} {cx : List Int} {S : List Nat} (h : MemO w B va vc ar cx) (c : Chg S w w') (hS : ∀ x ∈ S, x < B) : MemO w' B va vc ar cx := by
 obtain ⟨vs, h1, h2, h3⟩ := h
 exact ⟨vs, own_low h1 c hS, fun i v a hv ha => own_low (h2 i v a hv ha) c hS, own_low h3 c hS⟩
theorem MemO.base {w : World} {B B' : Nat} {va vc : Value} {ar : List (List Int)} {cx : List Int} (h : MemO w B va vc ar cx) (hb : B' ≤ B) : MemO w B' va vc ar cx := by
 obtain ⟨vs, h1, h2, h3⟩ := h
 exact ⟨vs, own_mono h1 hb, fun i v a hv ha => own_mono (h2 i v a hv ha) hb, own_mono h3 hb⟩
theorem memRows_own {w : World} {B p : Nat} {va vc : Value} {vs : List Value} {ar : List (List Int)} {cx : List Int} (h : RowsL w B p (memRows va vc vs ar cx)) : MemO w B va vc ar cx := by
 refine ⟨vs, h.own _ (List.mem_of_getElem? (i := 0) rfl), fun i v a hv ha => ?_, h.own (arow vc cx) (List.mem_of_getElem? (i := 1) rfl)⟩
 refine h.own (arow v a) (List.mem_of_getElem? (i := i + 2) ?_)
 show (List.zipWith arow vs ar)[i]? = _
 exact zip_at vs ar i v a hv ha
theorem memRows_snoc (va va' vc v : Value) (vs : List Value) (ar : List (List Int)) (a cx : List Int) (hl : vs.length = ar.length) (k : Nat) (hk : ar.length = k) : memRows va' vc (vs ++ [v]) (ar ++ [a]) cx = (memRows va vc vs ar cx ++ [arow v a]).set 0 ⟨27, 1, va', k + 1, vs ++ [v]⟩ := by
 subst hk
 unfold memRows
 rw [List.zipWith_append hl]
 simp
theorem blk_at1 (w : World) (cs : List Value) (t : TypeId) (k : Nat) (h : w.heap.size = k) : Blk (w.alloc (.cells cs.toArray t)) k t cs := by subst h; exact Blk.new w cs t
def CopPost (w : World) (ar : List (List Int)) (cx : List Int) (x : Ending) (w' : World) : Prop := ∃ va' vc' vs p, x = .returned (.agg #[va', vc']) ∧ vs.length = ar.length ∧ RowsL w' w.heap.size p (memRows va' vc' vs ar cx) ∧ Ext w w'
theorem rd_at {w : World} {b off n cap sz : Nat} {cs : List Value} (h : Rd w sz (.slice (some ⟨b, off, none⟩) n cap) n cs) (j : Nat) (v : Value) (hv : cs[j]? = some v) : w.cell? ⟨b, off + j, none⟩ = some v := by
 have := h.news j v hv
 rwa [show (⟨b, off, none⟩ : Addr).add j = ⟨b, off + j, none⟩ by simp [Addr.add]] at this
theorem take_snoc' {α : Type} {l : List α} {k : Nat} {a : α} (h : l[k]? = some a) : l.take (k + 1) = l.take k ++ [a] := by
 rw [List.take_add_one, h]; rfl
theorem icopied_any (w : World) (va vc : Value) (ar : List (List Int)) (cx : List Int) (h : MemR w va vc ar cx) (hn8 : ar.length ≤ 100000) (hal : ∀ a ∈ ar, a.length ≤ 100000) (hcx : cx.length ≤ 100000) :
  Calls Tryz.prog 50 #[.agg #[va, vc]] w (CopPost w ar cx) := by
 obtain ⟨i1, hi1, hy0, hy1, hy2⟩ := info_parts sl32_info
 have hib := hidden hi1
 obtain ⟨vs0, hr, hrs, hrc⟩ := h
 obtain ⟨aa, ca, rfl, hca, hca2, -⟩ := Rd.shape hr
 obtain ⟨ac, cc, rfl, -, -, -⟩ := Rd.shape hrc
 have XW := ((Ext.refl w).alloc (.cells #[.slice aa ar.length ca, .slice ac cx.length cc] 29)).alloc (.cells #[.slice none 0 0, .slice none 0 0] 29)
 have BW := (Blk.new w [.slice aa ar.length ca, .slice ac cx.length cc] 29).alloc (.cells #[.slice none 0 0, .slice none 0 0] 29)
 have BR := blk_at1 (w.alloc (.cells #[.slice aa ar.length ca, .slice ac cx.length cc] 29)) [.slice none 0 0, .slice none 0 0] 29 (w.heap.size + 1) (Array.size_push ..)
 obtain ⟨b0, b1⟩ := BW.c2
 have hcl0 := hidden (iclone32_any (.slice ac cx.length cc) cx _ (hrc.ext XW) hcx)
 go_enter Tryz.func50, Tryz.ntmps50
 go_wp2_with fail
 refine hcl0.out.mono ?_
 rintro x w1 ⟨vc', rfl, hOc, hX1⟩
 have hOc' : w1.ownsRow _ 42 1 vc' cx.length (cx.map (Value.int .u32)) := hOc
 clear hOc
 obtain ⟨acc, ccc, rfl, -⟩ := own_shape hOc'
 have hOc := hOc'
 clear hOc'
 have hX2 := hidden (XW.trans hX1)
 have g0 := hX1.cell b0
 have BR2 := (BR.ext hX1).alloc (.cells #[.slice none 0 0, .slice acc cx.length ccc] 29)
 have hpn : w.heap.size + 1 < w1.heap.size := (BR.ext hX1).lt
 have hOc2 := own_mono hOc XW.size
 have hBp := Blk.new w1 [.slice none 0 0, .slice acc cx.length ccc] 29
 have hpw := hX2.out.size
 have hrows : RowsL (w1.alloc (.cells #[.slice none 0 0, .slice acc cx.length ccc] 29)) w.heap.size w1.heap.size (memRows (.slice none 0 0) (.slice acc cx.length ccc) [] [] cx) := by
  refine ⟨?_, ?_, hpw, by simp⟩
  ·intro r hr
   simp only [memRows, List.zipWith_nil_left, List.append_nil, List.mem_cons, List.not_mem_nil, or_false] at hr
   rcases hr with rfl | rfl
   ·exact World.ownsRow_nil _ _ _ _
   ·exact own_ext hOc2 ((Ext.refl w1).alloc _)
  ·have hb : ∀ x, (Value.slice acc cx.length ccc).ownBlock = some x → x < w1.heap.size := fun x hx => (own_lt hOc hx).2
   simp only [memRows, List.zipWith_nil_left, List.append_nil, blks, arow, List.flatMap_cons, List.flatMap_nil]
   rw [show (Value.slice none 0 0).ownBlock = none from rfl]
   cases hq : (Value.slice acc cx.length ccc).ownBlock with
   | none => simp
   | some x => have := hb x hq; simp; omega
 have hE0 := hidden (hX2.out.alloc (.cells #[.slice none 0 0, .slice acc cx.length ccc] 29))
 have g0' := ((Ext.refl w1).alloc (.cells #[.slice none 0 0, .slice acc cx.length ccc] 29)).cell g0
 obtain ⟨n, hn⟩ := ex ar.length
 rw [hn] at g0 g0' hca hn8 hr
 obtain ⟨p, hp⟩ := ex w1.heap.size
 rw [hp] at hBp hpw hrows
 have hrsI := hidden hrs
 have hrI := hidden hr
 have hwz := hidden XW
 replace hrows := hidden hrows
 replace hBp := hidden hBp
 replace hn := hidden hn
 clear hOc hX1 hOc2 b0 b1 hr hrs hrc BW
 rw [hp] at hpn
 have hp1 := hidden (show p ≤ (w1.alloc (.cells #[.slice none 0 0, .slice acc cx.length ccc] 29)).heap.size by rw [← hp]; exact ((Ext.refl w1).alloc _).size)
 replace BR2 := hidden BR2
 clear BR
 go_wp2_with fail
 go_loopw [13] (fun ix wr => ∃ k : Nat, k ≤ n ∧ ix = .int .i64 (k : Int) ∧ ∃ (al : Option Addr) (cl : Nat) (vs : List Value), Hid (RowsL wr w.heap.size p (memRows (.slice al k cl) (.slice acc cx.length ccc) vs (ar.take k) cx)) ∧ Hid (vs.length = k) ∧ Hid (Blk wr p 29 [.slice al k cl, .slice acc cx.length ccc]) ∧ Hid (Ext w wr) ∧ Hid (Blk wr (w.heap.size + 1) 29 [.slice none 0 0, .slice none 0 0])) (fun ix _ => (n - intOf ix).toNat)
 case atStart => exact ⟨0, by omega, rfl, none, 0, [], hrows, hidden rfl, hBp, hE0, BR2⟩
 case round =>
  obtain ⟨k, hk, rfl, al, cl, vs, hrows, hvl, hblk, hext, hres⟩ := hrel
  by_cases hlt : k < n
  ·have hlt' : (k : Int) < (n : Int) := by omega
   obtain ⟨b, off, rfl, -, -⟩ := hrI.out.cells (by omega)
   obtain ⟨vk, hvk⟩ : ∃ v, vs0[k]? = some v := ⟨_, List.getElem?_eq_getElem (by have := hrI.out.len; omega)⟩
   obtain ⟨a, hak⟩ : ∃ a, ar[k]? = some a := ⟨_, List.getElem?_eq_getElem (by rw [hn.out]; exact hlt)⟩
   have x0 := hext.out.cell (rd_at hrI.out k vk hvk)
   have hcl := hidden (fun (W : World) (hW : Ext wr W) => iclone32_any vk a W ((hrsI.out k vk a hvk hak).ext (hext.out.trans hW)) (hal a (List.mem_of_getElem? hak)))
   have d0 := hblk.out.cell 0 _ rfl
   have hrow := hidden (show wr.ownsRow w.heap.size 27 1 (.slice al k cl) k vs by
    have := hrows.out.own _ (List.mem_of_getElem? (i := 0) rfl)
    unfold Row.own at this
    simp only [List.length_take] at this
    rw [show min k ar.length = k by rw [hn.out]; omega] at this
    exact this)
   have hbase := hidden hext.out.size
   have hkn8 : k < 100000 := by omega
   have hlen2 : k < ar.length := by rw [hn.out]; exact hlt
   have hlk2 := hvl.out
   have hcap := own_shape hrow.out
   go_upto_region 5 with fail
   refine wp_region_D (S := fun w' => w'.cell? ⟨p, 0, none⟩ = some (.slice al k cl)) (D := [7]) (by kernel_rfl) d0 (fun HS => ?_)
   refine tk 0 [1, 5, 6, 7] (.pointer (some ⟨p, 0, none⟩)) HS ?_; try simp only [sx]
   refine tk 1 [5, 6, 7] (.slice al k cl) HS ?_; try simp only [sx]
   refine tk 2 [3, 4, 5, 6, 7] (vk) HS ?_; try simp only [sx]
   refine callD 3 67 #[vk] rfl (by kernel_rfl) (by rfl) (by go_simp) (hcl.out wr.drew (Ext.refl wr).drew) ?_
   rintro x w2 ⟨v', rfl, hO2, hX2⟩
   have e0 := hX2.cell d0
   have hO2' : w2.ownsRow wr.drew.heap.size 42 1 v' a.length (a.map (Value.int .u32)) := hO2
   clear hO2
   obtain ⟨av', cv', rfl, -⟩ := own_shape hO2'
   have hO2 := hO2'
   clear hO2'
   have hX3 := hidden ((Ext.refl wr).drew.trans hX2)
   refine Or.inl ⟨_, rfl, fun _ => e0, ?_⟩
   try simp only [Act.put, sx]
   have HOa := hidden (own_ext hrow.out (hX3.out.alloc (.cells #[.slice av' a.length cv'] 27)))
   have HN := hidden (rd_newc w2 [.slice av' a.length cv'] 27 1 1 rfl (by decide))
   have hpush := hidden (hrows.out.push (r := arow (.slice av' a.length cv') a) (hX3.out.alloc (.cells #[.slice av' a.length cv'] 27)) (own_ext (own_mono hO2 (Nat.le_trans hbase.out (Ext.refl wr).drew.size)) ((Ext.refl w2).alloc _)) (fun x hx => Nat.le_trans (Ext.refl wr).drew.size (own_lt hO2 hx).1))
   have hBp := hidden (hblk.out.ext (hX3.out.alloc (.cells #[.slice av' a.length cv'] 27)))
   have hRs := hidden (hres.out.ext (hX3.out.alloc (.cells #[.slice av' a.length cv'] 27)))
   have g0 := ((Ext.refl w2).alloc (.cells #[.slice av' a.length cv'] 27)).cell e0
   have hsz2 := hX3.out.size
   clear hX2 hO2
   refine valueD 4 (.slice (some ⟨w2.heap.size, 0, none⟩) 1 1) rfl rfl (by kernel_rfl) (by rfl) (w' := w2.alloc (.cells #[.slice av' a.length cv'] 27)) (by go_simp) (fun _ => g0) ?_; try simp only [sx]
   refine appendD 5 rfl rfl rfl (by kernel_rfl) _ _ 26 (by rfl) w.heap.size 27 i1 (.slice none 0 0) 1 24 Tryz.underlying26 hib.out hy0 hy1 hy2 rfl (by decide) (.slice al k cl) k vs (by rfl) HOa.out (some ⟨w2.heap.size, 0, none⟩) 1 1 [.slice av' a.length cv'] (by rfl) HN.out (by simp [Value.oneCell']) (by unfold maxLen; omega) (by omega) (by have := hbase.out; simp; omega) (by omega) ?_
   intro v'' w4 hown4 hgrow4 hat4
   obtain ⟨a4, c4, rfl, k41, k42, -⟩ := own_shape hown4
   have c40 : Chg (Value.slice al k cl).ownBlock.toList (w2.alloc (.cells #[.slice av' a.length cv'] 27)) w4 := (Chg.refl _ _).grown hgrow4 (fun k hk => Or.inl (by simp [hk]))
   have hpq : p ∉ (Value.slice al k cl).ownBlock.toList := fun hm => (List.nodup_cons.1 hpush.out.nodup).1 (mem_blks.2 ⟨_, List.mem_of_getElem? (i := 0) rfl, by simpa using hm⟩)
   have f0 := c40.cell hpq g0
   have hBp4 := hBp.out.chg c40 hpq
   have hfz := hBp4.frozen 0
   have hRs4 := hidden (hRs.out.chg c40 (fun hm => own_ne_blk HOa.out hRs.out (by decide) (by simpa using hm)))
   obtain ⟨hput, -⟩ := hpush.out.put (i := 0) (r' := ⟨27, 1, .slice a4 (k + 1) c4, k + 1, vs ++ [Value.slice av' a.length cv']⟩) rfl c40 (fun x hx => Or.inr (Or.inl (by simpa using hx))) hown4 (fun x hx => by rcases hat4 with e | e <;> rw [e] at hx; exact Or.inl hx; simp only [Option.some.injEq] at hx; exact Or.inr (by rw [← hx]; exact Nat.le_refl _))
   have hX4 := hidden ((Chg.of_ext [] (hext.out.trans (hX3.out.alloc (.cells #[.slice av' a.length cv'] 27)))).grown hgrow4 (fun k hk => Or.inr (own_lt HOa.out hk).1)).ext
   replace hput := hidden hput
   replace hBp4 := hidden hBp4
   clear hown4 hgrow4 hat4 HOa HN hpush hBp hRs
   refine ⟨fun _ => f0, ?_⟩; try simp only [sx]
   refine tk 6 [7] (.pointer (some ⟨p, 0, none⟩)) f0 ?_; try simp only [sx]
   refine storeD 7 rfl rfl (by kernel_rfl) (by rfl) (w' := w4.setCell ⟨p, 0, none⟩ (.slice a4 (k + 1) c4)) (by go_simp) (fun h => absurd (by decide) h) ?_
   refine wpAnyD_done (by kernel_rfl) ?_ _
   show _
   have c50 : Chg [p] w4 (w4.setCell ⟨p, 0, none⟩ (.slice a4 (k + 1) c4)) := (Chg.refl _ _).setCell (Or.inl (by simp)) _
   have hRs5 := hidden (hRs4.out.chg c50 (fun hm => by rw [List.mem_singleton] at hm; omega))
   have hfin := hput.out.chg c50 (fun x hx hm => by rw [List.mem_singleton.1 hx] at hm; exact (List.nodup_cons.1 hput.out.nodup).1 hm)
   have hlk := hvl.out
   rw [← memRows_snoc _ _ _ _ _ _ _ _ (by rw [List.length_take]; omega) k (by rw [List.length_take]; omega), ← take_snoc' hak] at hfin
   replace hfin := hidden hfin
   have hB5 := hidden (hBp4.out.set 0 (.slice a4 (k + 1) c4))
   have hX5 := hidden (hX4.out.setCell (p := ⟨p, 0, none⟩) hpw (.slice a4 (k + 1) c4))
   go_wp2_with fail
   go_roundw
   case rel => exact ⟨k + 1, by omega, by go_num, _, _, _, hfin, hidden (by simp [hlk]), hB5, hX5, hRs5⟩
   case measure => simp [intOf] <;> omega
  ·obtain rfl : k = n := by omega
   have hlt' : ¬ ((k : Int) < (k : Int)) := by omega
   obtain ⟨d0, d1⟩ := hblk.out.c2
   obtain ⟨e0, e1⟩ := hres.out.c2
   obtain ⟨f0, f1⟩ := hres.out.fz2
   go_wp2_with fail
   have c50 : Chg [w.heap.size + 1] wr ((wr.setCell ⟨w.heap.size + 1, 0, none⟩ (.slice al k cl)).setCell ⟨w.heap.size + 1, 1, none⟩ (.slice acc cx.length ccc)) := ((Chg.refl _ _).setCell (Or.inl (by simp)) _).setCell (Or.inl (by simp)) _
   have hR := hrows.out.chg c50 (fun x hx hm => by
    rw [List.mem_singleton.1 hx] at hm
    obtain ⟨r, hr, hv⟩ := mem_blks.1 hm
    have ho := hrows.out.own r hr
    have ht : r.t = 27 ∨ r.t = 42 := by
     unfold memRows at hr
     rcases List.mem_append.1 hr with hr | hr
     ·simp only [List.mem_cons, List.not_mem_nil, or_false] at hr
      rcases hr with rfl | rfl
      ·exact Or.inl rfl
      ·exact Or.inr rfl
     ·obtain ⟨j, hj, e⟩ := List.getElem_of_mem hr
      rw [← e, List.getElem_zipWith]
      exact Or.inr rfl
    exact own_ne_blk ho hres.out (by rcases ht with e | e <;> rw [e] <;> decide) hv)
   rw [show ar.take k = ar by rw [← hn.out, List.take_length]] at hR
   have hpost : CopPost w ar cx (.returned (.agg #[.slice al k cl, .slice acc cx.length ccc])) ((wr.setCell ⟨w.heap.size + 1, 0, none⟩ (.slice al k cl)).setCell ⟨w.heap.size + 1, 1, none⟩ (.slice acc cx.length ccc)) :=
    ⟨_, _, vs, p, rfl, by rw [hvl.out, hn.out], hR, (hext.out.setCell (p := ⟨w.heap.size + 1, 0, none⟩) (Nat.le_succ _) _).setCell (p := ⟨w.heap.size + 1, 1, none⟩) (Nat.le_succ _) _⟩
   have pz0 : World.cell? ((wr.setCell ⟨w.heap.size + 1, 0, none⟩ (.slice al k cl)).setCell ⟨w.heap.size + 1, 1, none⟩ (.slice acc cx.length ccc)) ⟨w.heap.size + 1, 0, none⟩ = some (.slice al k cl) := ((hres.out.set 0 (.slice al k cl)).set 1 (.slice acc cx.length ccc)).cell 0 _ rfl
   have pz1 : World.cell? ((wr.setCell ⟨w.heap.size + 1, 0, none⟩ (.slice al k cl)).setCell ⟨w.heap.size + 1, 1, none⟩ (.slice acc cx.length ccc)) ⟨w.heap.size + 1, 1, none⟩ = some (.slice acc cx.length ccc) := ((hres.out.set 0 (.slice al k cl)).set 1 (.slice acc cx.length ccc)).cell 1 _ rfl
   refine bodyPost_ret (v := .agg #[.slice al k cl, .slice acc cx.length ccc]) (by simp [results, Tryz.results50, go_sem, pz0, pz1]) rfl hpost
theorem eq8_any (va vb : Value) (la lb : List Int) (w : World) (ha : Rd w 1 va la.length (la.map (Value.int .u8))) (hb : Rd w 1 vb lb.length (lb.map (Value.int .u8))) :
  Calls Tryz.prog 26 #[va, vb] w fun x w' => x = .returned (.bool (decide (la = lb))) ∧ Ext w w' := by
 obtain ⟨a, ca, rfl, a1, a2, a3⟩ := Rd.shape ha
 obtain ⟨b, cb, rfl, b1, b2, b3⟩ := Rd.shape hb
 by_cases hl : la.length = lb.length
 ·obtain ⟨n, hn⟩ := ex la.length
  rw [hn] at hl a1 ha ⊢
  rw [← hl]
  rw [← hl] at b1 hb
  have HA := hidden ha
  have HB := hidden hb
  have Hn := hidden hn
  have Hl := hidden hl
  clear ha hb hn hl
  by_cases h0 : n = 0
  ·subst h0
   go_enter Tryz.func26, Tryz.ntmps26
   go_wp2_with fail
   refine wp_loop_rounds 1 ?_
   rw [rounds_succ]
   go_wp2_with fail
   go_ret
   refine ⟨ret_bool ?_, Ext.refl _⟩
   rw [List.eq_nil_of_length_eq_zero Hn.out, List.eq_nil_of_length_eq_zero Hl.out.symm]
   rfl
  ·obtain ⟨p, oa, rfl, -, -⟩ := Rd.cells (cs := la.map (Value.int .u8)) (w := w) (sz := 1) HA.out (show 0 < n by omega)
   obtain ⟨q, ob, rfl, -, -⟩ := Rd.cells (cs := lb.map (Value.int .u8)) (w := w) (sz := 1) HB.out (show 0 < n by omega)
   go_enter Tryz.func26, Tryz.ntmps26
   go_wp2_with fail
   go_loopw [13] (fun i wr => ∃ k : Nat, k ≤ n ∧ i = .int .i64 (k : Int) ∧ Hid (la.take k = lb.take k) ∧ Ext w wr) (fun i _ => (n - intOf i).toNat)
   case atStart => exact ⟨0, by omega, rfl, rfl, Ext.refl _⟩
   case round =>
    obtain ⟨k, hk, rfl, hq, hE⟩ := hrel
    by_cases hlt : k < n
    ·have hlt' : (k : Int) < (n : Int) := by omega
     have e1 := Hn.out
     have e2 := Hl.out
     obtain ⟨x, hxe⟩ : ∃ x, la[k]? = some x := ⟨_, List.getElem?_eq_getElem (by omega)⟩
     obtain ⟨y, hye⟩ : ∃ y, lb[k]? = some y := ⟨_, List.getElem?_eq_getElem (by omega)⟩
     have hx' := hE.cell (rd_at HA.out k (.int .u8 x) (by rw [List.getElem?_map, hxe]; rfl))
     have hy' := hE.cell (rd_at HB.out k (.int .u8 y) (by rw [List.getElem?_map, hye]; rfl))
     have Hx := hidden hxe
     have Hy := hidden hye
     have hkw : IntKind.i64.wrap ((k : Int) + 1) = (k : Int) + 1 := IntWalk.i64_in _ (by omega)
     clear hxe hye e1 e2
     go_upto_region 6 with fail
     go_quiet (fail)
     by_cases hxy : x = y
     ·have hxy' : (x != y) = false := by simp [hxy]
      have hq2 : Hid (la.take (k + 1) = lb.take (k + 1)) := by
       show la.take (k + 1) = lb.take (k + 1)
       rw [take_snoc' Hx.out, take_snoc' Hy.out, hq.out, hxy]
      clear hxy
      go_wp2_with fail
      go_roundw
      case rel => exact ⟨k + 1, by omega, by go_num, hq2, ((Chg.of_ext [] hE).drewN _).ext⟩
      case measure => simp [intOf]; omega
     ·have hxy' : (x != y) = true := by simp [hxy]
      have hq2 : Hid (la ≠ lb) := by
       intro h
       apply hxy
       have h1 := Hx.out
       rw [h, Hy.out] at h1
       exact (Option.some.inj h1).symm
      clear hxy
      go_wp2_with fail
      go_ret
      exact ⟨ret_bool (by simp [hq2.out]), ((Chg.of_ext [] hE).drewN _).ext⟩
    ·have hkn : k = n := by omega
     subst hkn
     go_wp2_with fail
     go_ret
     refine ⟨ret_bool ?_, hE⟩
     have h := hq.out
     rw [List.take_of_length_le (by rw [Hn.out]; omega), List.take_of_length_le (by rw [← Hl.out]; omega)] at h
     simp [h]
 ·have hli : ((la.length : Int) != (lb.length : Int)) = true := by simp; omega
  have hne : la ≠ lb := fun h => hl (by rw [h])
  clear ha hb
  have Hne := hidden hne
  clear hne hl
  obtain ⟨n, hn⟩ := ex la.length
  obtain ⟨m, hm⟩ := ex lb.length
  rw [hn, hm] at hli
  rw [hn] at a1 ⊢
  rw [hm] at b1 ⊢
  go_enter Tryz.func26, Tryz.ntmps26
  go_wp2_with fail
  go_ret
  exact ⟨ret_bool (by simp [Hne.out]), Ext.refl _⟩
theorem eq32_any (va vb : Value) (la lb : List Int) (w : World) (ha : Rd w 1 va la.length (la.map (Value.int .u32))) (hb : Rd w 1 vb lb.length (lb.map (Value.int .u32))) :
  Calls Tryz.prog 29 #[va, vb] w fun x w' => x = .returned (.bool (decide (la = lb))) ∧ Ext w w' := by
 obtain ⟨a, ca, rfl, a1, a2, a3⟩ := Rd.shape ha
 obtain ⟨b, cb, rfl, b1, b2, b3⟩ := Rd.shape hb
 by_cases hl : la.length = lb.length
 ·obtain ⟨n, hn⟩ := ex la.length
  rw [hn] at hl a1 ha ⊢
  rw [← hl]
  rw [← hl] at b1 hb
  have HA := hidden ha
  have HB := hidden hb
  have Hn := hidden hn
  have Hl := hidden hl
  clear ha hb hn hl
  by_cases h0 : n = 0
  ·subst h0
   go_enter Tryz.func29, Tryz.ntmps29
   go_wp2_with fail
   refine wp_loop_rounds 1 ?_
   rw [rounds_succ]
   go_wp2_with fail
   go_ret
   refine ⟨ret_bool ?_, Ext.refl _⟩
   rw [List.eq_nil_of_length_eq_zero Hn.out, List.eq_nil_of_length_eq_zero Hl.out.symm]
   rfl
  ·obtain ⟨p, oa, rfl, -, -⟩ := Rd.cells (cs := la.map (Value.int .u32)) (w := w) (sz := 1) HA.out (show 0 < n by omega)
   obtain ⟨q, ob, rfl, -, -⟩ := Rd.cells (cs := lb.map (Value.int .u32)) (w := w) (sz := 1) HB.out (show 0 < n by omega)
   go_enter Tryz.func29, Tryz.ntmps29
   go_wp2_with fail
   go_loopw [13] (fun i wr => ∃ k : Nat, k ≤ n ∧ i = .int .i64 (k : Int) ∧ Hid (la.take k = lb.take k) ∧ Ext w wr) (fun i _ => (n - intOf i).toNat)
   case atStart => exact ⟨0, by omega, rfl, rfl, Ext.refl _⟩
   case round =>
    obtain ⟨k, hk, rfl, hq, hE⟩ := hrel
    by_cases hlt : k < n
    ·have hlt' : (k : Int) < (n : Int) := by omega
     have e1 := Hn.out
     have e2 := Hl.out
     obtain ⟨x, hxe⟩ : ∃ x, la[k]? = some x := ⟨_, List.getElem?_eq_getElem (by omega)⟩
     obtain ⟨y, hye⟩ : ∃ y, lb[k]? = some y := ⟨_, List.getElem?_eq_getElem (by omega)⟩
     have hx' := hE.cell (rd_at HA.out k (.int .u32 x) (by rw [List.getElem?_map, hxe]; rfl))
     have hy' := hE.cell (rd_at HB.out k (.int .u32 y) (by rw [List.getElem?_map, hye]; rfl))
     have Hx := hidden hxe
     have Hy := hidden hye
     have hkw : IntKind.i64.wrap ((k : Int) + 1) = (k : Int) + 1 := IntWalk.i64_in _ (by omega)
     clear hxe hye e1 e2
     go_upto_region 6 with fail
     go_quiet (fail)
     by_cases hxy : x = y
     ·have hxy' : (x != y) = false := by simp [hxy]
      have hq2 : Hid (la.take (k + 1) = lb.take (k + 1)) := by
       show la.take (k + 1) = lb.take (k + 1)
       rw [take_snoc' Hx.out, take_snoc' Hy.out, hq.out, hxy]
      clear hxy
      go_wp2_with fail
      go_roundw
      case rel => exact ⟨k + 1, by omega, by go_num, hq2, ((Chg.of_ext [] hE).drewN _).ext⟩
      case measure => simp [intOf]; omega
     ·have hxy' : (x != y) = true := by simp [hxy]
      have hq2 : Hid (la ≠ lb) := by
       intro h
       apply hxy
       have h1 := Hx.out
       rw [h, Hy.out] at h1
       exact (Option.some.inj h1).symm
      clear hxy
      go_wp2_with fail
      go_ret
      exact ⟨ret_bool (by simp [hq2.out]), ((Chg.of_ext [] hE).drewN _).ext⟩
    ·have hkn : k = n := by omega
     subst hkn
     go_wp2_with fail
     go_ret
     refine ⟨ret_bool ?_, hE⟩
     have h := hq.out
     rw [List.take_of_length_le (by rw [Hn.out]; omega), List.take_of_length_le (by rw [← Hl.out]; omega)] at h
     simp [h]
 ·have hli : ((la.length : Int) != (lb.length : Int)) = true := by simp; omega
  have hne : la ≠ lb := fun h => hl (by rw [h])
  clear ha hb
  have Hne := hidden hne
  clear hne hl
  obtain ⟨n, hn⟩ := ex la.length
  obtain ⟨m, hm⟩ := ex lb.length
  rw [hn, hm] at hli
  rw [hn] at a1 ⊢
  rw [hm] at b1 ⊢
  go_enter Tryz.func29, Tryz.ntmps29
  go_wp2_with fail
  go_ret
  exact ⟨ret_bool (by simp [Hne.out]), Ext.refl _⟩
theorem samenum_any (va vb : Value) (la lb : List Int) (w : World) (ha : Rd w 1 va la.length (la.map (Value.int .u32))) (hb : Rd w 1 vb lb.length (lb.map (Value.int .u32))) :
  Calls Tryz.prog 33 #[va, vb] w fun x w' => x = .returned (.bool (decide (la = lb))) ∧ Ext w w' := by
 obtain ⟨a, ca, rfl, a1, a2, a3⟩ := Rd.shape ha
 obtain ⟨b, cb, rfl, b1, b2, b3⟩ := Rd.shape hb
 by_cases hl : la.length = lb.length
 ·obtain ⟨n, hn⟩ := ex la.length
  rw [hn] at hl a1 ha ⊢
  rw [← hl]
  rw [← hl] at b1 hb
  have HA := hidden ha
  have HB := hidden hb
  have Hn := hidden hn
  have Hl := hidden hl
  clear ha hb hn hl
  by_cases h0 : n = 0
  ·subst h0
   go_enter Tryz.func33, Tryz.ntmps33
   go_wp2_with fail
   refine wp_loop_rounds 1 ?_
   rw [rounds_succ]
   go_wp2_with fail
   go_ret
   refine ⟨ret_bool ?_, Ext.refl _⟩
   rw [List.eq_nil_of_length_eq_zero Hn.out, List.eq_nil_of_length_eq_zero Hl.out.symm]
   rfl
  ·obtain ⟨p, oa, rfl, -, -⟩ := Rd.cells (cs := la.map (Value.int .u32)) (w := w) (sz := 1) HA.out (show 0 < n by omega)
   obtain ⟨q, ob, rfl, -, -⟩ := Rd.cells (cs := lb.map (Value.int .u32)) (w := w) (sz := 1) HB.out (show 0 < n by omega)
   go_enter Tryz.func33, Tryz.ntmps33
   go_wp2_with fail
   go_loopw [5] (fun i wr => ∃ k : Nat, k ≤ n ∧ i = .int .i64 (k : Int) ∧ Hid (la.take k = lb.take k) ∧ Ext w wr) (fun i _ => (n - intOf i).toNat)
   case atStart => exact ⟨0, by omega, rfl, rfl, Ext.refl _⟩
   case round =>
    obtain ⟨k, hk, rfl, hq, hE⟩ := hrel
    by_cases hlt : k < n
    ·have hlt' : (k : Int) < (n : Int) := by omega
     have e1 := Hn.out
     have e2 := Hl.out
     obtain ⟨x, hxe⟩ : ∃ x, la[k]? = some x := ⟨_, List.getElem?_eq_getElem (by omega)⟩
     obtain ⟨y, hye⟩ : ∃ y, lb[k]? = some y := ⟨_, List.getElem?_eq_getElem (by omega)⟩
     have hx' := hE.cell (rd_at HA.out k (.int .u32 x) (by rw [List.getElem?_map, hxe]; rfl))
     have hy' := hE.cell (rd_at HB.out k (.int .u32 y) (by rw [List.getElem?_map, hye]; rfl))
     have Hx := hidden hxe
     have Hy := hidden hye
     have hkw : IntKind.i64.wrap ((k : Int) + 1) = (k : Int) + 1 := IntWalk.i64_in _ (by omega)
     clear hxe hye e1 e2
     go_upto_region 6 with fail
     go_quiet (fail)
     by_cases hxy : x = y
     ·have hxy' : (x != y) = false := by simp [hxy]
      have hq2 : Hid (la.take (k + 1) = lb.take (k + 1)) := by
       show la.take (k + 1) = lb.take (k + 1)
       rw [take_snoc' Hx.out, take_snoc' Hy.out, hq.out, hxy]
      clear hxy
      go_wp2_with fail
      go_roundw
      case rel => exact ⟨k + 1, by omega, by go_num, hq2, ((Chg.of_ext [] hE).drewN _).ext⟩
      case measure => simp [intOf]; omega
     ·have hxy' : (x != y) = true := by simp [hxy]
      have hq2 : Hid (la ≠ lb) := by
       intro h
       apply hxy
       have h1 := Hx.out
       rw [h, Hy.out] at h1
       exact (Option.some.inj h1).symm
      clear hxy
      go_wp2_with fail
      go_ret
      exact ⟨ret_bool (by simp [hq2.out]), ((Chg.of_ext [] hE).drewN _).ext⟩
    ·have hkn : k = n := by omega
     subst hkn
     go_wp2_with fail
     go_ret
     refine ⟨ret_bool ?_, hE⟩
     have h := hq.out
     rw [List.take_of_length_le (by rw [Hn.out]; omega), List.take_of_length_le (by rw [← Hl.out]; omega)] at h
     simp [h]
 ·have hli : ((la.length : Int) != (lb.length : Int)) = true := by simp; omega
  have hne : la ≠ lb := fun h => hl (by rw [h])
  clear ha hb
  have Hne := hidden hne
  clear hne hl
  obtain ⟨n, hn⟩ := ex la.length
  obtain ⟨m, hm⟩ := ex lb.length
  rw [hn, hm] at hli
  rw [hn] at a1 ⊢
  rw [hm] at b1 ⊢
  go_enter Tryz.func33, Tryz.ntmps33
  go_wp2_with fail
  go_ret
  exact ⟨ret_bool (by simp [Hne.out]), Ext.refl _⟩
end Go.Proofs.YtgjjklajipekdaaGreat
