
import Derived.Test.YtgjjklajipekdaaGreatJo
import Derived.Test.YtgjjklajipekdaaGreatJk
import Derived.Test.YtgjjklajipekdaaGreatIf
import Derived.Deep.RegionHeld3
import Derived.Outline
namespace Go.Proofs.YtgjjklajipekdaaGreat
set_option maxHeartbeats 16000000
set_option maxRecDepth 100000
open Go.RowKit
set_option linter.unusedVariables false
attribute [local go_sem ↓] Go.wp_at_zero Go.wp_at_succ
def EncPost (w : World) (r : Int × List Int) (x : Ending) (w' : World) : Prop :=
 ∃ v', x = .returned (.tuple #[v', .int .i64 r.1]) ∧ Own8 w' w.heap.size v' r.2 ∧ Ext w w'
def encF (A : List (Bool × Int)) (L : Int) (C : List (Int × Int)) : Int × List Int := if formE A L C ≠ 0 then (formE A L C, []) else (0, progB A L C)
theorem arrs_ok : ∀ (l : List (Bool × Int)) (left : Int), left ≤ 65536 → arrs left l = 0 → ∀ x ∈ l, 1 ≤ x.2 ∧ x.2 ≤ 65536
 | [], _, _, _ => fun x hx => by cases hx
 | a :: r, left, hl, h => by
  by_cases hc : a.2 < 1 ∨ left < a.2
  ·rw [show arrs left (a :: r) = 2 from if_pos hc] at h; cases h
  ·rw [show arrs left (a :: r) = arrs (left - a.2) r from if_neg hc] at h
   have ih := arrs_ok r (left - a.2) (by omega) h
   intro x hx
   rcases List.mem_cons.1 hx with rfl | hx
   ·omega
   ·exact ih x hx
theorem codE_ok : ∀ (l : List (Int × Int)), codE l = 0 → ∀ x ∈ l, chkI x.1 x.2 = 0
 | [], _ => fun x hx => by cases hx
 | a :: r, h => by
  by_cases hc : chkI a.1 a.2 ≠ 0
  ·rw [show codE (a :: r) = _ from if_pos hc] at h; exact absurd h hc
  ·rw [show codE (a :: r) = codE r from if_neg hc] at h
   intro x hx
   rcases List.mem_cons.1 hx with rfl | hx
   ·exact Decidable.not_not.1 hc
   ·exact codE_ok r h x hx
theorem form_ok {A : List (Bool × Int)} {L : Int} {C : List (Int × Int)} (h : formE A L C = 0) :
  A.length ≤ 8 ∧ (∀ x ∈ A, 1 ≤ x.2 ∧ x.2 ≤ 65536) ∧ 0 ≤ L ∧ L ≤ 16 ∧ C.length ≤ 1024 ∧ codE C = 0 ∧ arrs 65536 A = 0 := by
 unfold formE at h
 by_cases h1 : arrE A ≠ 0
 ·rw [if_pos h1] at h; exact absurd h h1
 ·rw [if_neg h1] at h
  have h1 := Decidable.not_not.1 h1
  by_cases h2 : L < 0 ∨ 16 < L
  ·rw [if_pos h2] at h; cases h
  ·rw [if_neg h2] at h
   by_cases h3 : 1024 < C.length
   ·rw [if_pos h3] at h; cases h
   ·rw [if_neg h3] at h
    unfold arrE at h1
    by_cases h4 : 8 < A.length
    ·rw [if_pos h4] at h1; cases h1
    ·rw [if_neg h4] at h1
     exact ⟨by omega, arrs_ok A 65536 (by omega) h1, by omega, by omega, by omega, h, h1⟩
theorem wenc_8 (n : Int) (h0 : 0 ≤ n) (h1 : n ≤ 9007199254740991) : (wenc n).length ≤ 8 := by
 have := fur_7 n h0 h1
 rw [wenc_len]; omega
theorem encA_len (l : List (Bool × Int)) : (encA l).length ≤ 8 * l.length := by
 induction l with
 | nil => simp [encA]
 | cons a l ih =>
  have := wenc_8 (wnum (arrN a)) (wnum_bd _).1 (wnum_bd _).2
  have e : encA (a :: l) = wenc (wnum (arrN a)) ++ encA l := by simp [encA]
  rw [e, List.length_append, List.length_cons]; omega
theorem encC_len (l : List (Int × Int)) (h : ∀ x ∈ l, 0 ≤ x.2 ∧ x.2 ≤ 4294967295) : (encC l).length ≤ 9 * l.length := by
 induction l with
 | nil => simp [encC]
 | cons a l ih =>
  have h1 := h a (by simp)
  have := wenc_8 a.2 h1.1 (by omega)
  have e : encC (a :: l) = encI a ++ encC l := by simp [encC]
  have e2 : (encI a).length ≤ 9 := by unfold encI; split <;> simp <;> omega
  have := ih (fun x hx => h x (by simp [hx]))
  rw [e, List.length_append, List.length_cons]; omega
theorem chk_ok {op arg : Int} (h : chkI op arg = 0) : 0 ≤ op ∧ op < 36 := by
 unfold chkI at h
 by_cases h1 : isOp op = false
 ·rw [if_pos h1] at h; cases h
 ·have h2 : isOp op = true := by simpa using h1
  exact of_decide_eq_true h2
set_option linter.unusedVariables false
theorem rd8_alloc {w : World} {v : Value} {l : List Int} (h : Rd8 w v l) (o : Obj) : Rd8 (w.alloc o) v l := Rd.alloc h o
theorem flag0 (w : World) : Calls Tryz.prog 62 #[.bool false] w fun x w' => x = .returned (.int .u32 0) ∧ w = w' := flag_any false w
theorem flag1 (w : World) : Calls Tryz.prog 62 #[.bool true] w fun x w' => x = .returned (.int .u32 1) ∧ w = w' := flag_any true w
theorem iencode_bad (va vc : Value) (A : List (Bool × Int)) (L : Int) (C : List (Int × Int)) (hA : OkA A) (hC : OkI C) (hL0 : -9223372036854775808 ≤ L) (hL1 : L ≤ 9223372036854775807) (hz : formE A L C ≠ 0) (w : World) (ra : Arr w va A) (rc : Cod w vc C) :
  Calls Tryz.prog 45 #[.agg #[va, .int .i64 L, vc]] w (EncPost w (encF A L C)) := by
 have hf := fun W (g : Ext w W) => iform_any va vc A L C hA hC hL0 hL1 W (Rd.ext ra g) (Rd.ext rc g)
 have hE : Hid (encF A L C = (formE A L C, [])) := by show _ = _; unfold encF; exact if_pos hz
 obtain ⟨e0, he0⟩ := ex (formE A L C)
 rw [he0] at hf hz hE
 have hz' : (e0 != 0) = true := by simp [hz]
 replace hf := hidden hf
 clear he0 hz ra rc
 go_enter Tryz.func45, Tryz.ntmps45
 go_wp2_with fail
 refine (hf.out _ ((Ext.refl w).alloc _)).mono ?_
 rintro e w1 ⟨rfl, g1⟩
 go_wp2_with fail
 go_ret2
 show EncPost w (encF A L C) _ _
 rw [hE.out]
 exact ⟨_, rfl, World.ownsRow_nil _ _ _ _, g1.past⟩
theorem iencode_good (va vc : Value) (A : List (Bool × Int)) (L : Int) (C : List (Int × Int)) (hA : OkA A) (hC : OkI C) (hL0 : -9223372036854775808 ≤ L) (hL1 : L ≤ 9223372036854775807) (hz : formE A L C = 0) (w : World) (ra : Arr w va A) (rc : Cod w vc C) :
  Calls Tryz.prog 45 #[.agg #[va, .int .i64 L, vc]] w (EncPost w (encF A L C)) := by
 have hf := fun W (g : Ext w W) => iform_any va vc A L C hA hC hL0 hL1 W (Rd.ext ra g) (Rd.ext rc g)
 have hE : Hid (encF A L C = (0, progB A L C)) := by show _ = _; unfold encF; exact if_neg (by simp [hz])
 rw [hz] at hf
 obtain ⟨k1, k2, k3, k4, k5, k6, k7⟩ := form_ok hz
 obtain ⟨aa, ca, rfl, a1, a2, a3⟩ := Rd.shape ra
 obtain ⟨ac, cc, rfl, c1, c2, c3⟩ := Rd.shape rc
 obtain ⟨m, hm⟩ := ex A.length
 obtain ⟨n, hn⟩ := ex C.length
 have RA : Rd w 2 (.slice aa A.length ca) A.length (A.flatMap cA) := ra
 have RC : Rd w 2 (.slice ac C.length cc) C.length (C.flatMap cI) := rc
 rw [hn] at RC c1 k5
 rw [hm] at RA a1 k1
 simp only [hm, hn] at hf ⊢
 have wm : wnum (m : Int) = m := wnum_id (by omega) (by omega)
 have wn : wnum (n : Int) = n := wnum_id (by omega) (by omega)
 have wL : wnum L = L := wnum_id (by omega) (by omega)
 have HB : Blk (w.alloc (.cells #[.slice aa m ca, .int .i64 L, .slice ac n cc] 25)) w.heap.size 25 [.slice aa m ca, .int .i64 L, .slice ac n cc] := Blk.new w _ _
 have gB := (Ext.refl w).alloc (.cells #[.slice aa m ca, .int .i64 L, .slice ac n cc] 25)
 have k2 := hidden k2
 have k6 := hidden k6
 replace hm := hidden hm
 replace hn := hidden hn
 replace RA := hidden RA
 replace RC := hidden RC
 replace hC := hidden hC
 replace wm := hidden wm
 replace wn := hidden wn
 replace wL := hidden wL
 replace hf := hidden hf
 have hpi := fun (v : Value) (D : List Int) (n : Int) (hD : D.length ≤ 900000) (w : World) (h : Rd8 w v D) => wputint_any v D n hD w h
 replace hpi := hidden hpi
 clear hA hz ra rc k7
 go_enter Tryz.func45, Tryz.ntmps45
 go_wp2_with fail
 refine (hf.out _ gB).mono ?_
 rintro e w1 ⟨rfl, g1⟩
 have HB1 := HB.ext g1
 have X1 := gB.trans g1
 obtain ⟨p0, p1, p2⟩ := HB1.c3
 go_wp2_with fail
 refine (hpi.out _ [] (m : Int) (by simp) _ (Rd8.nil _)).mono ?_
 rw [wm.out]
 rintro e w2 ⟨v2, rfl, hO2, g2⟩
 rw [List.nil_append] at hO2
 have HB2 := HB1.ext g2
 have X2 := X1.trans g2
 clear p0 p1 p2
 have p0 := HB2.cell 0 _ rfl
 have O2 : Own8 w2 w.heap.size v2 (wenc m) := own_mono hO2 X1.size
 go_wp2_with fail
 clear p0
 go_loopw [5, 24] (fun b i wr => ∃ (k : Nat), k ≤ m ∧ i = .int .i64 (k : Int) ∧ Own8 wr w.heap.size b (wenc m ++ encA (A.take k)) ∧ Blk wr w.heap.size 25 [.slice aa m ca, .int .i64 L, .slice ac n cc] ∧ Ext w wr) (fun _ i _ => m - (intOf i).toNat)
 case atStart => exact ⟨0, by omega, rfl, by simpa [encA] using O2, HB2, X2⟩
 case round =>
  obtain ⟨k, hk, rfl, hO, HBr, X⟩ := hrel
  by_cases hlt : k < m
  ·obtain ⟨b, off, rfl, -, -⟩ := RA.out.cells (by omega)
   obtain ⟨x, hx, hxm⟩ := at_lt A (k := k) (by rw [hm.out]; exact hlt)
   obtain ⟨x0, x1⟩ := k2.out x hxm
   obtain ⟨c0, c1⟩ := rd2_at cA_len RA.out k x hx _ _ rfl
   have hdr : encA (A.take (k + 1)) = encA (A.take k) ++ wenc (wnum (arrN x)) := by
    rw [List.take_succ_eq_append_getElem (by rw [hm.out]; exact hlt), encA_snoc]
    rw [(List.getElem?_eq_some_iff.1 hx).2]
   obtain ⟨wd, sz⟩ := x
   simp only at x0 x1 c0 c1
   have d0 := X.cell c0
   have d1 := X.cell c1
   clear c0 c1 hx hxm
   replace hdr := hidden hdr
   have hl1 := wenc_8 (m : Int) (by omega) (by omega)
   have hl2 := encA_len (A.take k)
   have hl3 : (A.take k).length ≤ k := List.length_take_le _ _
   have hlD : (wenc m ++ encA (A.take k)).length ≤ 900000 := by rw [List.length_append]; omega
   clear hl1 hl2 hl3
   obtain ⟨D, hD⟩ := ex (wenc m ++ encA (A.take k))
   rw [hD] at hO hlD
   replace hD := hidden hD
   go_wp2_with fail
   have q1 : IntKind.i64.wrap (2 * sz) = 2 * sz := IntWalk.i64_in _ (by omega)
   have HR : Rd8 ((wr.alloc (.cells #[.bool wd, .int .i64 sz] 70)).drew) u5 D := (Rd.alloc hO.rd _).drew
   have r0 : (wr.alloc (.cells #[.bool wd, .int .i64 sz] 70)).cell? ⟨wr.heap.size, 0, none⟩ = some (.bool wd) := (Blk.new wr [.bool wd, .int .i64 sz] 70).cell 0 _ rfl
   have r1 : (wr.alloc (.cells #[.bool wd, .int .i64 sz] 70)).cell? ⟨wr.heap.size, 1, none⟩ = some (.int .i64 sz) := (Blk.new wr [.bool wd, .int .i64 sz] 70).cell 1 _ rfl
   have HB5 : Blk ((wr.alloc (.cells #[.bool wd, .int .i64 sz] 70)).drew) w.heap.size 25 [.slice (some ⟨b, off, none⟩) m ca, .int .i64 L, .slice ac n cc] := (HBr.alloc _).drew
   have X5 : Ext w ((wr.alloc (.cells #[.bool wd, .int .i64 sz] 70)).drew) := (X.alloc _).drew
   cases wd with
   | false =>
    have hn2 : 2 * sz = arrN (false, sz) := by simp [arrN]
    replace hn2 := hidden hn2
    have q2 : IntKind.i64.wrap 0 = 0 := IntWalk.i64_in _ (by omega)
    go_region_held3 (fun w' => w'.cell? ⟨wr.heap.size, 0, none⟩ = some (.bool false) ∧ w'.cell? ⟨wr.heap.size, 1, none⟩ = some (.int .i64 sz)) (go_keep)
     (first | (go_at_call 62; refine (flag0 _).mono ?_; rintro e _ ⟨rfl, rfl⟩) | (go_at_call 61; (with_reducible refine (hpi.out u5 D (2 * sz) hlD _ HR).mono ?_); rintro e w5 ⟨v5, rfl, hO5, g5⟩; have k0 := g5.cell r0; have k1 := g5.cell r1))
    clear r0 r1 k0 k1 q1 q2 HR d0 d1
    rw [hn2.out] at hO5
    have hO6 : Own8 w5 w.heap.size v5 (wenc m ++ encA (A.take (k + 1))) := by
     rw [hdr.out, ← List.append_assoc, hD.out]
     exact own_mono hO5 X5.size
    go_wp2_with fail
    go_roundw
    case rel => exact ⟨k + 1, by omega, by go_num, hO6, HB5.ext g5, X5.trans g5⟩
    case measure => simp [intOf]; omega
   | true =>
    have hn2 : 2 * sz + 1 = arrN (true, sz) := by simp [arrN]
    replace hn2 := hidden hn2
    have q2 : IntKind.i64.wrap 1 = 1 := IntWalk.i64_in _ (by omega)
    have q3 : IntKind.i64.wrap (2 * sz + 1) = 2 * sz + 1 := IntWalk.i64_in _ (by omega)
    go_region_held3 (fun w' => w'.cell? ⟨wr.heap.size, 0, none⟩ = some (.bool true) ∧ w'.cell? ⟨wr.heap.size, 1, none⟩ = some (.int .i64 sz)) (go_keep)
     (first | (go_at_call 62; refine (flag1 _).mono ?_; rintro e _ ⟨rfl, rfl⟩) | (go_at_call 61; (with_reducible refine (hpi.out u5 D (2 * sz + 1) hlD _ HR).mono ?_); rintro e w5 ⟨v5, rfl, hO5, g5⟩; have k0 := g5.cell r0; have k1 := g5.cell r1))
    clear r0 r1 k0 k1 q1 q2 q3 HR d0 d1
    rw [hn2.out] at hO5
    have hO6 : Own8 w5 w.heap.size v5 (wenc m ++ encA (A.take (k + 1))) := by
     rw [hdr.out, ← List.append_assoc, hD.out]
     exact own_mono hO5 X5.size
    go_wp2_with fail
    go_roundw
    case rel => exact ⟨k + 1, by omega, by go_num, hO6, HB5.ext g5, X5.trans g5⟩
    case measure => simp [intOf]; omega
  ·obtain rfl : k = m := by omega
   have hlA : A.take k = A := List.take_of_length_le (by rw [hm.out]; exact Nat.le_refl _)
   rw [hlA] at hO
   clear hlA
   have hl1 := wenc_8 (k : Int) (by omega) (by omega)
   have hl2 := encA_len A
   rw [hm.out] at hl2
   have hlD : (wenc k ++ encA A).length ≤ 80 := by rw [List.length_append]; omega
   have hlD' : (wenc k ++ encA A).length ≤ 900000 := by omega
   clear hl1 hl2
   obtain ⟨D, hD⟩ := ex (wenc k ++ encA A)
   rw [hD] at hO hlD hlD'
   replace hD := hidden hD
   have HR : Rd8 wr.drew u5 D := hO.rd.drew
   have r1 := HBr.cell 1 _ rfl
   have r2 := HBr.cell 2 _ rfl
   have l8 := wenc_8 L k3 (by omega)
   have L5 : (D ++ wenc L).length ≤ 900000 := by rw [List.length_append]; omega
   have L6 : (D ++ wenc L).length ≤ 88 := by rw [List.length_append]; omega
   go_wp2_with fail
   go_region_held3 (fun w' => w'.cell? ⟨w.heap.size, 1, none⟩ = some (.int .i64 L) ∧ w'.cell? ⟨w.heap.size, 2, none⟩ = some (.slice ac n cc)) (go_keep)
    (first
     | (go_at_call 61; (with_reducible refine (hpi.out u5 D L hlD' _ HR).mono ?_); rw [wL.out]; rintro e w5 ⟨v5, rfl, hO5, g5⟩; have k1 := g5.cell r1; have k2 := g5.cell r2)
     | (go_at_call 61; (with_reducible refine (hpi.out v5 (D ++ wenc L) (n : Int) L5 _ hO5.rd).mono ?_); rw [wn.out]; rintro e w6 ⟨v6, rfl, hO6, g6⟩; have j1 := g6.cell k1; have j2 := g6.cell k2))
   have hs5 := g5.size
   have hs0 := X.size
   obtain ⟨H, hH⟩ := ex (D ++ wenc L ++ wenc n)
   rw [hH] at hO6
   have hHl : H.length ≤ 96 := by
    have := wenc_8 (n : Int) (by omega) (by omega)
    rw [← hH, List.length_append]; omega
   have O6 : Own8 w6 w.heap.size v6 H := own_mono hO6 (Nat.le_trans hs0 hs5)
   have X6 : Ext w w6 := (X.drew.trans g5).trans g6
   have HB6 : Blk w6 w.heap.size 25 [.slice aa k ca, .int .i64 L, .slice ac n cc] := (HBr.drew.ext g5).ext g6
   obtain ⟨i0, hi, hz0, hz1, hz2⟩ := info_parts u8info
   have hkn := known_any
   replace hkn := hidden hkn
   clear r1 r2 k1 k2 j1 j2 HR hO5 g5 g6 hO6 hs5 hs0 hO HBr X L5 L6 l8 hlD hlD' HB1 HB2 X1 X2 O2 hO2 g1 g2
   replace hH := hidden hH
   have r2 := HB6.cell 2 _ rfl
   go_wp2_with fail
   clear r2
   go_loopw [5, 50] (fun b i wr => ∃ (j : Nat), j ≤ n ∧ i = .int .i64 (j : Int) ∧ Own8 wr w.heap.size b (H ++ encC (C.take j)) ∧ Blk wr w.heap.size 25 [.slice aa k ca, .int .i64 L, .slice ac n cc] ∧ Ext w wr) (fun _ i _ => n - (intOf i).toNat)
   case atStart => exact ⟨0, by omega, rfl, by simpa [encC] using O6, HB6, X6⟩
   case round =>
    obtain ⟨j, hj, rfl, hO, HBr, X⟩ := hrel
    by_cases hlt : j < n
    ·obtain ⟨b, off, rfl, -, -⟩ := RC.out.cells (by omega)
     obtain ⟨x, hx, hxm⟩ := at_lt C (k := j) (by rw [hn.out]; exact hlt)
     obtain ⟨-, x2, x3⟩ := hC.out x hxm
     have hck := codE_ok C k6.out x hxm
     obtain ⟨c0, c1⟩ := rd2_at cI_len RC.out j x hx _ _ rfl
     have hdr : encC (C.take (j + 1)) = encC (C.take j) ++ encI x := by
      rw [List.take_succ_eq_append_getElem (by rw [hn.out]; exact hlt), encC_snoc]
      rw [(List.getElem?_eq_some_iff.1 hx).2]
     obtain ⟨op, arg⟩ := x
     simp only at x2 x3 c0 c1 hck
     obtain ⟨o0, o1⟩ := chk_ok hck
     have hls := encC_len (C.take j) (fun z hz => (hC.out z (List.mem_of_mem_take hz)).2)
     have hlt2 : (C.take j).length ≤ j := List.length_take_le _ _
     have hlD : (H ++ encC (C.take j)).length ≤ 20000 := by rw [List.length_append]; omega
     clear hls hlt2 hck
     obtain ⟨D2, hD2⟩ := ex (H ++ encC (C.take j))
     rw [hD2] at hO hlD
     replace hD2 := hidden hD2
     replace hdr := hidden hdr
     have d0 := X.cell c0
     have d1 := X.cell c1
     clear c0 c1 hx hxm
     have hsz := X.size
     have hne := hidden (own_ne_blk hO HBr (by decide))
     have hnew : ((wr.alloc (.cells #[.int .i64 op, .int .u32 arg] 63)).alloc (.cells #[.int .u8 op] 5)).heap[wr.heap.size + 1]? = some (.cells #[.int .u8 op] 5 (0, 0)) := by
      have := heap_alloc_new (wr.alloc (.cells #[.int .i64 op, .int .u32 arg] 63)) (.cells #[.int .u8 op] 5)
      rw [World.size_alloc] at this
      exact this
     replace hnew := hidden hnew
     have B9 : Blk ((wr.alloc (.cells #[.int .i64 op, .int .u32 arg] 63)).alloc (.cells #[.int .u8 op] 5)) wr.heap.size 63 [.int .i64 op, .int .u32 arg] := (Blk.new wr [.int .i64 op, .int .u32 arg] 63).alloc _
     have hne9 : Hid (u5.ownBlock ≠ some wr.heap.size) := fun e => by have := (own_lt hO e).2; omega
     have HB9 := (HBr.alloc (.cells #[.int .i64 op, .int .u32 arg] 63)).alloc (.cells #[.int .u8 op] 5)
     have hrow : Hid (∀ k, u5.ownBlock = some k → w.heap.size ≤ k) := fun k hk => (own_lt hO hk).1
     obtain ⟨TT, hTT⟩ := ex (opAt op)
     have hk2 := hkn.out op
     have hio : isOp op = true := decide_eq_true ⟨o0, o1⟩
     simp only [hTT, hio] at hk2
     have hei : encI (op, arg) = op :: (if TT.2.2.2.2 then wenc arg else []) := by
      unfold encI
      simp only [hTT]
      rw [Int.emod_eq_of_lt o0 (by omega)]
     obtain ⟨t0, t1, t2, t3, t4⟩ := TT
     simp only at hk2 hei
     replace hk2 := hidden hk2
     replace hei := hidden hei
     clear hio hTT
     go_wp2_with (at_builtin; refine wpList_append_own _ rfl _ _ 46 rfl w.heap.size 5 i0 (.int .u8 0) 1 1 Tryz.underlying46 hi hz0 hz1 hz2 rfl (by decide) u5 D2.length (bs D2) rfl (World.ownsRow.alloc (World.ownsRow.alloc hO _) _) ⟨wr.heap.size + 1, 0, none⟩ 1 1 [.int .u8 op] rfl rfl (World.news_of_block (cs := #[.int .u8 op]) (t := 5) (fr := (0, 0)) hnew.out) (by simp [Value.oneCell']) (by unfold maxLen; omega) (by omega) (by simp; omega) ?_; intro v7 w7 hown7 hgrow7 hnil7; have B7 := B9.grown hgrow7 hne9.out; have HB7 := HB9.grown hgrow7 hne.out; have z0 := B7.cell 0 _ rfl; have z1 := B7.cell 1 _ rfl)
     have X7 : Ext w w7 := (((Chg.of_ext [] X).alloc _).alloc _ |>.grown hgrow7 (fun k hk => Or.inr (hrow.out k hk))).ext
     have O7 : Own8 w7 w.heap.size v7 (D2 ++ [op]) := by
      have e : bs (D2 ++ [op]) = bs D2 ++ [.int .u8 op] := by simp [bs]
      unfold Own8
      rw [e, List.length_append]
      exact hown7
     clear hgrow7 hnil7 hown7 B9 hne9 HB9 hrow hnew d0 d1 hne hO HBr X
     refine (hk2.out _).mono ?_
     rintro e w8 ⟨rfl, g8⟩
     have O8 : Own8 w8 w.heap.size v7 (D2 ++ [op]) := own_ext O7 g8
     have HB8 := HB7.ext g8
     have X8 := X7.trans g8
     have z2 := g8.cell z0
     have z3 := g8.cell z1
     clear O7 HB7 X7 B7 z0 z1
     cases t4 with
     | false =>
      have hfin : Hid (D2 ++ [op] = H ++ encC (C.take (j + 1))) := by show _ = _; rw [hdr.out, hei.out, ← List.append_assoc, hD2.out]; rfl
      go_wp2_with fail
      go_roundw
      case rel => exact ⟨j + 1, by omega, by go_num, by rw [← hfin.out]; exact World.ownsRow.alloc O8 _, HB8.alloc _, X8.alloc _⟩
      case measure => simp [intOf]; omega
     | true =>
      have hfin : Hid (D2 ++ [op] ++ wenc arg = H ++ encC (C.take (j + 1))) := by show _ = _; rw [hdr.out, hei.out, ← List.append_assoc, hD2.out]; simp
      have z4 : ∀ o, (w8.alloc o).cell? ⟨wr.heap.size, 1, none⟩ = some (.int .u32 arg) := fun o => ((Ext.refl w8).alloc o).cell z3
      have a4 : arg ≤ 9007199254740991 := by omega
      have hwa : Hid (wnum arg = arg) := wnum_id x2 a4
      have hlD3 : (D2 ++ [op]).length ≤ 900000 := by simp; omega
      go_wp2_with fail
      (with_reducible refine (hpi.out v7 (D2 ++ [op]) arg hlD3 _ (rd8_alloc (Own8.rd O8) _)).mono ?_)
      rw [hwa.out, hfin.out]
      rintro e w9 ⟨v9, rfl, hO9, g9⟩
      have hs8 := X8.size
      go_wp2_with fail
      go_roundw
      case rel => exact ⟨j + 1, by omega, by go_num, own_mono hO9 (by simp; omega), (HB8.alloc _).ext g9, (X8.alloc _).trans g9⟩
      case measure => simp [intOf]; omega
    ·obtain rfl : j = n := by omega
     have hlC : C.take j = C := List.take_of_length_le (by rw [hn.out]; exact Nat.le_refl _)
     rw [hlC] at hO
     clear hlC
     have hp : H ++ encC C = progB A L C := by rw [← hH.out, ← hD.out]; unfold progB; rw [hm.out, hn.out]
     rw [hp] at hO
     clear hp
     go_wp2_with fail
     go_ret2
     show EncPost w (encF A L C) _ _
     rw [hE.out]
     exact ⟨_, rfl, hO, X⟩
theorem iencode_any (va vc : Value) (A : List (Bool × Int)) (L : Int) (C : List (Int × Int)) (hA : OkA A) (hC : OkI C) (hL0 : -9223372036854775808 ≤ L) (hL1 : L ≤ 9223372036854775807) (w : World) (ra : Arr w va A) (rc : Cod w vc C) :
  Calls Tryz.prog 45 #[.agg #[va, .int .i64 L, vc]] w (EncPost w (encF A L C)) := by
 by_cases hz : formE A L C = 0
 ·exact iencode_good va vc A L C hA hC hL0 hL1 hz w ra rc
 ·exact iencode_bad va vc A L C hA hC hL0 hL1 hz w ra rc
end Go.Proofs.YtgjjklajipekdaaGreat
