
import Derived.Test.YtgjjklajipekdaaGreatYzg
import Derived.Test.YtgjjklajipekdaaGreatJq
import Derived.Test.YtgjjklajipekdaaGreatWv
import Derived.Test.YtgjjklajipekdaaGreatXf
namespace Go.Proofs.YtgjjklajipekdaaGreat
set_option maxHeartbeats 16000000
set_option maxRecDepth 100000
open Go.RowKit
set_option linter.unusedVariables false
set_option linter.unusedSimpArgs false
attribute [local go_sem ↓] Go.wp_at_zero Go.wp_at_succ
theorem encF1 (A : List (Bool × Int)) (L : Int) (C : List (Int × Int)) : (encF A L C).1 = formE A L C := by
 unfold encF
 split
 ·rfl
 next h => exact (Decidable.not_not.1 h).symm
theorem itform_any (va vc : Value) (A : List (Bool × Int)) (L : Int) (C : List (Int × Int)) (hA : OkA A) (hC : OkI C) (hL0 : -9223372036854775808 ≤ L) (hL1 : L ≤ 9223372036854775807) (w : World) (ra : Arr w va A) (rc : Cod w vc C) :
  Calls Tryz.prog 30 #[.agg #[va, .int .i64 L, vc]] w fun x w' => x = .returned (.int .i64 (formE A L C)) ∧ Ext w w' := by
 have X0 := (Ext.refl w).alloc (.cells #[va, .int .i64 L, vc] 25)
 have B0 := Blk.new w [va, .int .i64 L, vc] 25
 obtain ⟨b0, b1, b2⟩ := B0.c3
 have hcl := hidden (iencode_any va vc A L C hA hC hL0 hL1 _ (Rd.ext ra X0) (Rd.ext rc X0))
 rw [show ∀ W, EncPost W (encF A L C) = EncPost W (formE A L C, (encF A L C).2) from fun W => by rw [← encF1]] at hcl
 obtain ⟨aa, ca, rfl, -⟩ := Rd.shape ra
 obtain ⟨ac, cc, rfl, -⟩ := Rd.shape rc
 generalize hm : A.length = m at *
 generalize hn : C.length = n at *
 generalize hf : formE A L C = fe at *
 replace hm := hidden hm
 replace hn := hidden hn
 clear ra rc hA hC hf B0
 go_enter Tryz.func30, Tryz.ntmps30
 go_wp2_with fail
 refine hcl.out.mono ?_
 rintro x w1 ⟨v', rfl, -, hX1⟩
 have hX2 := hidden (X0.trans hX1)
 clear b0 b1 b2 hX1
 go_wp2_with fail
 go_ret
 exact ⟨rfl, hX2.out⟩
theorem irange_any (f : Int) (hf0 : -9223372036854775808 ≤ f) (hf1 : f ≤ 9223372036854775807) (w : World) :
  Calls Tryz.prog 38 #[.int .i64 f] w fun x w' => x = .returned (.bool (decide (0 ≤ f) && decide (f ≤ 281474976710656))) ∧ w' = w := by
 by_cases h0 : 0 ≤ f
 ·by_cases h1 : f ≤ 281474976710656
  ·go_enter Tryz.func38, Tryz.ntmps38
   go_wp2_with fail
   go_ret
   exact ⟨by simp [h0, h1], rfl⟩
  ·go_enter Tryz.func38, Tryz.ntmps38
   go_wp2_with fail
   go_ret
   exact ⟨by simp [h0, h1], rfl⟩
 ·go_enter Tryz.func38, Tryz.ntmps38
  go_wp2_with fail
  go_ret
  exact ⟨by rw [show decide (0 ≤ f) = false by simp; omega]; rfl, rfl⟩
def usE (A : List (Bool × Int)) (L : Int) (C : List (Int × Int)) : Int := if formE A L C ≠ 0 then formE A L C else (pairR C).2
def usP (A : List (Bool × Int)) (L : Int) (C : List (Int × Int)) : List Int := if formE A L C ≠ 0 then [] else (pairR C).1
theorem iusable_any (va vc : Value) (A : List (Bool × Int)) (L : Int) (C : List (Int × Int)) (hA : OkA A) (hC : OkI C) (hL0 : -9223372036854775808 ≤ L) (hL1 : L ≤ 9223372036854775807) (w : World) (ra : Arr w va A) (rc : Cod w vc C) :
  Calls Tryz.prog 37 #[.agg #[va, .int .i64 L, vc]] w fun x w' => ∃ vp, x = .returned (.tuple #[vp, .int .i64 (usE A L C)]) ∧ OwnI w' w.heap.size vp (usP A L C) ∧ Ext w w' := by
 have X0 := (Ext.refl w).alloc (.cells #[va, .int .i64 L, vc] 25)
 have B0 := Blk.new w [va, .int .i64 L, vc] 25
 obtain ⟨b0, b1, b2⟩ := B0.c3
 have hcl := hidden (itform_any va vc A L C hA hC hL0 hL1 _ (Rd.ext ra X0) (Rd.ext rc X0))
 have hpr := hidden (fun (W : World) (h : Ext w W) => pair_any list_all vc C W (show Code18 W vc C from Rd.ext rc h))
 obtain ⟨aa, ca, rfl, -⟩ := Rd.shape ra
 obtain ⟨ac, cc, rfl, -⟩ := Rd.shape rc
 have hz := hidden (show usE A L C = if formE A L C ≠ 0 then formE A L C else (pairR C).2 from rfl)
 have hp := hidden (show usP A L C = if formE A L C ≠ 0 then [] else (pairR C).1 from rfl)
 generalize hE : usE A L C = uE at *
 generalize hP : usP A L C = uP at *
 generalize hm : A.length = m at *
 generalize hn : C.length = n at *
 generalize hf : formE A L C = fe at *
 replace hm := hidden hm
 replace hn := hidden hn
 clear ra rc hA hC hf hE hP
 by_cases h0 : fe = 0
 ·subst h0
  rw [if_neg (by simp)] at hz hp
  go_enter Tryz.func37, Tryz.ntmps37
  go_wp2_with fail
  refine hcl.out.mono ?_
  rintro x w1 ⟨rfl, hX1⟩
  have hX2 := hidden (X0.trans hX1)
  have b0 := hX1.cell b0
  have b1 := hX1.cell b1
  have b2 := hX1.cell b2
  clear hX1 B0
  go_wp2_with fail
  refine (hpr.out w1 hX2.out).mono ?_
  rintro x w2 ⟨vp, rfl, hO, hX3⟩
  have hO' := hidden (own_mono hO hX2.out.size)
  replace hX3 := hidden (hX2.out.trans hX3)
  rw [hn.out] at *
  clear b0 b1 b2 hO
  go_wp2_with fail
  go_ret2
  exact ⟨vp, by rw [hz.out]; rfl, by rw [hp.out]; exact hO'.out, hX3.out⟩
 ·rw [if_pos h0] at hz hp
  go_enter Tryz.func37, Tryz.ntmps37
  go_wp2_with fail
  refine hcl.out.mono ?_
  rintro x w1 ⟨rfl, hX1⟩
  have hX2 := hidden (X0.trans hX1)
  clear hX1 B0 b0 b1 b2
  go_wp2_with fail
  go_ret2
  exact ⟨_, by rw [hz.out]; rfl, by rw [hp.out]; exact OwnI.nil _ _, hX2.out⟩
theorem made_u32 (n : Nat) : (madeCells #[.int .u32 0] n).toList = (List.replicate n (0 : Int)).map (Value.int .u32) := by
 show (madeCells (Value.int .u32 0).cells n).toList = _
 unfold madeCells
 simp only [Array.toList_map, Array.toList_range]
 rw [List.map_replicate]
 apply List.ext_getElem
 ·simp
 ·intro i h1 h2
  simp [Value.cells, Nat.mod_one]
theorem make32 (W : World) (n : Nat) (h : n ≤ 65536) : (Instr.makeSlice 27 (.int .i64 (n : Int)) (.int .i64 (n : Int))).run Tryz.prog W = .ok (.slice (some ⟨W.heap.size, 0, none⟩) n n) (W.alloc (.cells (madeCells #[.int .u32 0] n) 42)) := by
 obtain ⟨i1, hi, hz0, hz1, hz2⟩ := info_parts u32_info
 have := run_make (P := Tryz.prog) W 27 42 i1 (.int .u32 0) Tryz.underlying27 hi hz0 .i64 .i64 (n : Int) (n : Int) (by omega) (Int.le_refl _) (by rw [hz2]; omega) (by omega)
 rw [hz1, Int.toNat_natCast, Nat.mul_one] at this
 exact this
theorem made_own (w W : World) (hW : Ext w W) (n : Nat) (h : n ≤ 65536) : (arow (.slice (some ⟨W.heap.size, 0, none⟩) n n) (List.replicate n 0)).own (W.alloc (.cells (madeCells #[.int .u32 0] n) 42)) w.heap.size := by
 have := World.ownsRow_lit (base := w.heap.size) (e := 42) (size := 1) W (madeCells #[.int .u32 0] n) n hW.size (by unfold maxLen; omega) (by rw [size_madeCells]; omega)
 rw [made_u32] at this
 unfold Row.own arow
 simp only [List.length_replicate]
 exact this
def zerosA (A : List (Bool × Int)) : List (List Int) := A.map fun x => List.replicate x.2.toNat 0
def StartP (w : World) (A : List (Bool × Int)) (L : Int) (C : List (Int × Int)) (x : Ending) (w' : World) : Prop :=
 if formE A L C = 0 then ∃ va vc, x = .returned (.tuple #[.agg #[va, vc], .int .i64 0]) ∧ MemO w' w.heap.size va vc (zerosA A) (List.replicate 16 0) ∧ Ext w w'
 else x = .returned (.tuple #[.agg #[.slice none 0 0, .slice none 0 0], .int .i64 (formE A L C)]) ∧ Ext w w'
theorem arr_get {w : World} {b off n cap : Nat} {l : List (Bool × Int)} (h : Arr w (.slice (some ⟨b, off, none⟩) n cap) l) (hn : l.length = n) (k : Nat) (x : Bool × Int) (hx : l[k]? = some x) :
  w.cell? ⟨b, off + k * 2, none⟩ = some (.bool x.1) ∧ w.cell? ⟨b, off + k * 2 + 1, none⟩ = some (.int .i64 x.2) := by
 unfold Arr at h
 rw [hn] at h
 exact rd2_at (E := cA) (fun _ => rfl) h k x hx _ _ rfl
theorem formE_ok {A : List (Bool × Int)} {L : Int} {C : List (Int × Int)} (h : formE A L C = 0) : A.length ≤ 8 ∧ (∀ x ∈ A, 1 ≤ x.2 ∧ x.2 ≤ 65536) ∧ (0 ≤ L ∧ L ≤ 16) ∧ C.length ≤ 1024 ∧ codE C = 0 := by
 have ha : arrE A = 0 := by
  unfold formE at h
  by_cases h0 : arrE A = 0
  ·exact h0
  ·rw [if_pos h0] at h; exact absurd h h0
 unfold formE at h
 rw [if_neg (by simpa using ha)] at h
 have hl : A.length ≤ 8 := by
  unfold arrE at ha
  by_cases h8 : 8 < A.length
  ·rw [if_pos h8] at ha; cases ha
  ·omega
 have har : ∀ x ∈ A, 1 ≤ x.2 ∧ x.2 ≤ 65536 := by
  unfold arrE at ha
  rw [if_neg (by omega)] at ha
  exact arrs_ok A 65536 (by omega) ha
 by_cases hL : L < 0 ∨ 16 < L
 ·rw [if_pos hL] at h; cases h
 ·rw [if_neg hL] at h
  by_cases hC : 1024 < C.length
  ·rw [if_pos hC] at h; cases h
  ·rw [if_neg hC] at h
   exact ⟨hl, har, by omega, by omega, h⟩
theorem istart_any (va vc : Value) (A : List (Bool × Int)) (L : Int) (C : List (Int × Int)) (hA : OkA A) (hC : OkI C) (hL0 : -9223372036854775808 ≤ L) (hL1 : L ≤ 9223372036854775807) (w : World) (ra : Arr w va A) (rc : Cod w vc C) :
  Calls Tryz.prog 13 #[.agg #[va, .int .i64 L, vc]] w (StartP w A L C) := by
 obtain ⟨i1, hi1, hy0, hy1, hy2⟩ := info_parts sl32_info
 have hib := hidden hi1
 have X0 := (Ext.refl w).alloc (.cells #[va, .int .i64 L, vc] 25)
 have X1 := X0.alloc (.cells #[.slice none 0 0, .slice none 0 0] 29)
 have P0 := (Blk.new w [va, .int .i64 L, vc] 25).alloc (.cells #[.slice none 0 0, .slice none 0 0] 29)
 have BR := blk_at1 (w.alloc (.cells #[va, .int .i64 L, vc] 25)) [.slice none 0 0, .slice none 0 0] 29 (w.heap.size + 1) (Array.size_push ..)
 have hcl := hidden (itform_any va vc A L C hA hC hL0 hL1 _ (Rd.ext ra X1) (Rd.ext rc X1))
 have hz := hidden (show ∀ x W, StartP w A L C x W = (if formE A L C = 0 then ∃ va vc, x = .returned (.tuple #[.agg #[va, vc], .int .i64 0]) ∧ MemO W w.heap.size va vc (zerosA A) (List.replicate 16 0) ∧ Ext w W else x = .returned (.tuple #[.agg #[.slice none 0 0, .slice none 0 0], .int .i64 (formE A L C)]) ∧ Ext w W) from fun x W => rfl)
 obtain ⟨b0, b1, b2⟩ := P0.c3
 have raI := hidden ra
 obtain ⟨aa, ca, rfl, hca, hca2, -⟩ := Rd.shape ra
 obtain ⟨ac, cc, rfl, -⟩ := Rd.shape rc
 have hok := fun h => formE_ok (A := A) (L := L) (C := C) h
 generalize hS : StartP w A L C = SP at *
 generalize hn : A.length = n at *
 generalize hm : C.length = m at *
 generalize hf : formE A L C = fe at *
 replace hm := hidden hm
 replace hn := hidden hn
 have hokI := hidden hok
 clear ra rc hA hC hf hS hok
 by_cases h0 : fe = 0
 ·subst h0
  obtain ⟨hn8, hA2, -, -, -⟩ := hokI.out rfl
  replace hA2 := hidden hA2
  go_enter Tryz.func13, Tryz.ntmps13
  go_wp2_with fail
  refine hcl.out.mono ?_
  rintro x w1 ⟨rfl, hX1⟩
  have XA := X1.trans hX1
  have hmk := make32 w1 16 (by omega)
  rw [show ((16 : Nat) : Int) = 16 by rfl] at hmk
  have b0 := hX1.cell b0
  have X3 := ((Ext.refl w1).alloc (.cells (madeCells #[.int .u32 0] 16) 42)).alloc (.cells #[.slice none 0 0, .slice (some ⟨w1.heap.size, 0, none⟩) 16 16] 29)
  have hBp := blk_at1 (w1.alloc (.cells (madeCells #[.int .u32 0] 16) 42)) [.slice none 0 0, .slice (some ⟨w1.heap.size, 0, none⟩) 16 16] 29 (w1.heap.size + 1) (Array.size_push ..)
  have c0 := X3.cell b0
  have hres := hidden ((BR.ext hX1).ext X3)
  have hprg := hidden ((P0.ext hX1).ext X3)
  have hpn : w.heap.size + 1 < w1.heap.size := (BR.ext hX1).lt
  have hOc := own_ext (made_own w w1 XA 16 (by omega)) ((Ext.refl (w1.alloc (.cells (madeCells #[.int .u32 0] 16) 42))).alloc (.cells #[.slice none 0 0, .slice (some ⟨w1.heap.size, 0, none⟩) 16 16] 29))
  have hE0 := hidden (XA.trans X3)
  have hpw := XA.size
  clear hX1 BR P0
  go_upto_region 5 with fail
  obtain ⟨W, hW⟩ := ex ((w1.alloc (.cells (madeCells #[.int .u32 0] 16) 42)).alloc (.cells #[.slice none 0 0, .slice (some ⟨w1.heap.size, 0, none⟩) 16 16] 29))
  have hqW : w1.heap.size + 1 < W.heap.size := by rw [← hW]; exact hBp.lt
  rw [hW] at c0 hres hprg hOc hE0 hBp ⊢
  clear hW X3 hmk X1 XA hcl b0 b1 b2
  obtain ⟨p, hp⟩ := ex (w1.heap.size + 1)
  obtain ⟨vx, hvx⟩ := ex (Value.slice (some ⟨w1.heap.size, 0, none⟩) 16 16)
  have hbx : ∀ x, vx.ownBlock = some x → x < p := fun x hx => by rw [← hvx] at hx; simp only [Value.ownBlock, Option.some.injEq] at hx; omega
  rw [hvx] at hOc hBp ⊢
  rw [hp] at hqW hBp ⊢
  have hpn2 : w.heap.size + 1 < p := by omega
  have hp2 : w.heap.size ≤ p := by omega
  have hrows : RowsL W w.heap.size p (memRows (.slice none 0 0) vx [] [] (List.replicate 16 0)) := by
   refine ⟨?_, ?_, hp2, hqW⟩
   ·intro r hr
    simp only [memRows, List.zipWith_nil_left, List.append_nil, List.mem_cons, List.not_mem_nil, or_false] at hr
    rcases hr with rfl | rfl
    ·exact World.ownsRow_nil _ _ _ _
    ·exact hOc
   ·simp only [memRows, List.zipWith_nil_left, List.append_nil, blks, arow, List.flatMap_cons, List.flatMap_nil]
    rw [show (Value.slice none 0 0).ownBlock = none from rfl]
    cases hq : vx.ownBlock with
    | none => simp
    | some x => have := hbx x hq; simp; omega
  replace hrows := hidden hrows
  replace hBp := hidden hBp
  have hvxI := hidden hvx
  clear hOc hvx hp hbx
  clear hprg
  go_wp2_with fail
  go_loopw [19] (fun ix wr => ∃ k : Nat, k ≤ n ∧ ix = .int .i64 (k : Int) ∧ ∃ (al : Option Addr) (cl : Nat) (vs : List Value), Hid (RowsL wr w.heap.size p (memRows (.slice al k cl) vx vs ((zerosA A).take k) (List.replicate 16 0))) ∧ Hid (vs.length = k) ∧ Hid (Blk wr p 29 [.slice al k cl, vx]) ∧ Hid (Ext w wr) ∧ Hid (Blk wr (w.heap.size + 1) 29 [.slice none 0 0, .slice none 0 0])) (fun ix _ => (n - intOf ix).toNat)
  case atStart => exact ⟨0, by omega, rfl, none, 0, [], hrows, hidden rfl, hBp, hE0, hres⟩
  case round =>
   obtain ⟨k, hk, rfl, al, cl, vs, hrows, hvl, hblk, hext, hres⟩ := hrel
   by_cases hlt : k < n
   ·have hlt' : (k : Int) < (n : Int) := by omega
    obtain ⟨b, off, rfl, -, -⟩ := Rd.cells (cs := A.flatMap cA) (w := w) (sz := 2) (by have := raI.out; unfold Arr at this; rw [hn.out] at this; exact this) (show 0 < n by omega)
    obtain ⟨x, hak⟩ : ∃ x, A[k]? = some x := ⟨_, List.getElem?_eq_getElem (by rw [hn.out]; exact hlt)⟩
    obtain ⟨x0, x1⟩ := arr_get raI.out hn.out k x hak
    replace x0 := hext.out.cell x0
    replace x1 := hext.out.cell x1
    obtain ⟨hx1, hx2⟩ := hA2.out x (List.mem_of_getElem? hak)
    obtain ⟨xb, xs⟩ := x
    simp only at x0 x1 hx1 hx2
    obtain ⟨s, rfl⟩ := Int.eq_ofNat_of_zero_le (show 0 ≤ xs by omega)
    have hs1 : s ≤ 65536 := by omega
    have hs : (((xb, (s : Int)) : Bool × Int)).2 = (s : Int) := rfl
    have XZ := (Ext.refl wr).alloc (.cells #[.bool xb, .int .i64 (s : Int)] 70)
    have hgb := Blk.new wr [.bool xb, .int .i64 (s : Int)] 70
    have hrows1 := hrows.out.chg (Chg.of_ext [] XZ) (by simp)
    have hblk1 := hblk.out.ext XZ
    have hres1 := hres.out.ext XZ
    have hext1 := hext.out.trans XZ
    replace hs := hidden hs
    replace hak := hidden hak
    have hsz0 := hext.out.size
    clear XZ hrows hblk hres hext
    go_upto_region 8 with fail
    obtain ⟨W1, hW1⟩ := ex (wr.alloc (.cells #[.bool xb, .int .i64 (s : Int)] 70))
    rw [hW1] at hrows1 hblk1 hres1 hext1 hgb ⊢
    clear hW1 x0 x1
    obtain ⟨g, hg⟩ := ex wr.heap.size
    rw [hg] at hgb hsz0 ⊢
    clear hg
    have hrows := hidden hrows1
    have hblk := hidden hblk1
    have hres := hidden hres1
    have hext := hidden hext1
    have d0 := hblk1.cell 0 _ rfl
    have d1 := hgb.cell 1 _ rfl
    replace hgb := hidden hgb
    have hzl : (zerosA A).length = n := by rw [zerosA, List.length_map]; exact hn.out
    have hrow := hidden (show W1.ownsRow w.heap.size 27 1 (.slice al k cl) k vs by
     have := hrows.out.own _ (List.mem_of_getElem? (i := 0) rfl)
     unfold Row.own at this
     simp only [List.length_take] at this
     rw [show min k (zerosA A).length = k by rw [hzl]; omega] at this
     exact this)
    have hbase := hidden hext.out.size
    have hkn8 : k < 8 := by omega
    clear hrows1 hblk1 hres1 hext1
    refine wp_region_D (S := fun w' => w'.cell? ⟨p, 0, none⟩ = some (.slice al k cl) ∧ w'.cell? ⟨g, 1, none⟩ = some (.int .i64 (s : Int))) (D := [8]) (by kernel_rfl) ⟨d0, d1⟩ (fun HS => ?_)
    refine tk 0 [1, 6, 7, 8] (.pointer (some ⟨p, 0, none⟩)) HS ?_; try simp only [sx]
    refine tk 1 [6, 7, 8] (.slice al k cl) HS ?_; try simp only [sx]
    refine tk 2 [3, 4, 5, 6, 7, 8] (.pointer (some ⟨g, 1, none⟩)) HS ?_; try simp only [sx]
    refine tk 3 [4, 5, 6, 7, 8] (.int .i64 (s : Int)) HS ?_; try simp only [sx]
    have XA := hidden ((Ext.refl W1).drew.alloc (.cells (madeCells #[.int .u32 0] s) 42))
    have hmk := make32 W1.drew s hs1
    have e0 := XA.out.cell d0
    have e1 := XA.out.cell d1
    refine valueD 4 (.slice (some ⟨W1.heap.size, 0, none⟩) s s) rfl rfl (by kernel_rfl) (by rfl) (w' := (W1.drew.alloc (.cells (madeCells #[.int .u32 0] s) 42))) (by go_simp) (fun _ => ⟨e0, e1⟩) ?_; try simp only [sx]
    have hO2 := made_own W1 W1.drew (Ext.refl W1).drew s hs1
    obtain ⟨W2, hW2⟩ := ex ((W1.drew.alloc (.cells (madeCells #[.int .u32 0] s) 42)))
    have hsz : W2.heap.size = W1.heap.size + 1 := by rw [← hW2]; exact Array.size_push ..
    rw [hW2] at XA e0 e1 hO2 ⊢
    clear hW2 hmk
    have HOa := hidden (own_ext hrow.out (XA.out.alloc (.cells #[.slice (some ⟨W1.heap.size, 0, none⟩) s s] 27)))
    have HN := hidden (rd_newc W2 [.slice (some ⟨W1.heap.size, 0, none⟩) s s] 27 1 1 rfl (by decide))
    have hpush := hidden (hrows.out.push (r := arow (.slice (some ⟨W1.heap.size, 0, none⟩) s s) (List.replicate s 0)) (XA.out.alloc (.cells #[.slice (some ⟨W1.heap.size, 0, none⟩) s s] 27)) (own_ext (own_mono hO2 hbase.out) ((Ext.refl W2).alloc _)) (fun x hx => (own_lt hO2 hx).1))
    have hBp := hidden (hblk.out.ext (XA.out.alloc (.cells #[.slice (some ⟨W1.heap.size, 0, none⟩) s s] 27)))
    have hRs := hidden (hres.out.ext (XA.out.alloc (.cells #[.slice (some ⟨W1.heap.size, 0, none⟩) s s] 27)))
    have g0 := ((Ext.refl W2).alloc (.cells #[.slice (some ⟨W1.heap.size, 0, none⟩) s s] 27)).cell e0
    have g1 := ((Ext.refl W2).alloc (.cells #[.slice (some ⟨W1.heap.size, 0, none⟩) s s] 27)).cell e1
    clear hO2
    refine valueD 5 (.slice (some ⟨W2.heap.size, 0, none⟩) 1 1) rfl rfl (by kernel_rfl) (by rfl) (w' := W2.alloc (.cells #[.slice (some ⟨W1.heap.size, 0, none⟩) s s] 27)) (by go_simp) (fun _ => ⟨g0, g1⟩) ?_; try simp only [sx]
    refine appendD 6 rfl rfl rfl (by kernel_rfl) _ _ 26 (by rfl) w.heap.size 27 i1 (.slice none 0 0) 1 24 Tryz.underlying26 hib.out hy0 hy1 hy2 rfl (by decide) (.slice al k cl) k vs (by rfl) HOa.out (some ⟨W2.heap.size, 0, none⟩) 1 1 [.slice (some ⟨W1.heap.size, 0, none⟩) s s] (by rfl) HN.out (by simp [Value.oneCell']) (by unfold maxLen; omega) (by omega) (by have := hbase.out; have := ((Ext.refl W2).alloc (.cells #[.slice (some ⟨W1.heap.size, 0, none⟩) s s] 27)).size; omega) (by omega) ?_
    intro v'' w4 hown4 hgrow4 hat4
    obtain ⟨a4, c4, rfl, k41, k42, -⟩ := own_shape hown4
    have c40 : Chg (Value.slice al k cl).ownBlock.toList (W2.alloc (.cells #[.slice (some ⟨W1.heap.size, 0, none⟩) s s] 27)) w4 := (Chg.refl _ _).grown hgrow4 (fun k hk => Or.inl (by simp [hk]))
    have hpq : p ∉ (Value.slice al k cl).ownBlock.toList := fun hm => (List.nodup_cons.1 hpush.out.nodup).1 (mem_blks.2 ⟨_, List.mem_of_getElem? (i := 0) rfl, by simpa using hm⟩)
    have hgq : g ∉ (Value.slice al k cl).ownBlock.toList := fun hm => own_ne_blk HOa.out (hgb.out.ext (XA.out.alloc _)) (by decide) (by simpa using hm)
    have f0 := c40.cell hpq g0
    have f1 := c40.cell hgq g1
    have hBp4 := hBp.out.chg c40 hpq
    have hfz := hBp4.frozen 0
    have hRs4 := hidden (hRs.out.chg c40 (fun hm => own_ne_blk HOa.out hRs.out (by decide) (by simpa using hm)))
    obtain ⟨hput, -⟩ := hpush.out.put (i := 0) (r' := ⟨27, 1, .slice a4 (k + 1) c4, k + 1, vs ++ [Value.slice (some ⟨W1.heap.size, 0, none⟩) s s]⟩) rfl c40 (fun x hx => Or.inr (Or.inl (by simpa using hx))) hown4 (fun x hx => by rcases hat4 with e | e <;> rw [e] at hx; exact Or.inl hx; simp only [Option.some.injEq] at hx; exact Or.inr (by rw [← hx]; exact Nat.le_refl _))
    have hX4 := hidden ((Chg.of_ext [] (hext.out.trans (XA.out.alloc (.cells #[.slice (some ⟨W1.heap.size, 0, none⟩) s s] 27)))).grown hgrow4 (fun k hk => Or.inr (own_lt HOa.out hk).1)).ext
    replace hput := hidden hput
    replace hBp4 := hidden hBp4
    clear hown4 hgrow4 hat4 HOa HN hpush hBp hRs
    refine ⟨fun _ => ⟨f0, f1⟩, ?_⟩; try simp only [sx]
    refine takeD 7 [8] (.pointer (some ⟨p, 0, none⟩)) rfl rfl (by kernel_rfl) (by kernel_rfl) (by kernel_rfl) (by kernel_rfl) (by decide) (by decide) (fun _ _ _ h => h) (by rfl) (fun w' hw' => by go_simp) ⟨f0, f1⟩ ?_; try simp only [sx]
    refine storeD 8 rfl rfl (by kernel_rfl) (by rfl) (w' := w4.setCell ⟨p, 0, none⟩ (.slice a4 (k + 1) c4)) (by go_simp) (fun h => absurd (by decide) h) ?_
    refine wpAnyD_done (by kernel_rfl) ?_ _
    show _
    have c50 : Chg [p] w4 (w4.setCell ⟨p, 0, none⟩ (.slice a4 (k + 1) c4)) := (Chg.refl _ _).setCell (Or.inl (by simp)) _
    have hRs5 := hidden (hRs4.out.chg c50 (fun hm => by rw [List.mem_singleton] at hm; omega))
    have hfin := hput.out.chg c50 (fun x hx hm => by rw [List.mem_singleton.1 hx] at hm; exact (List.nodup_cons.1 hput.out.nodup).1 hm)
    have hlk := hvl.out
    have hzk : (zerosA A)[k]? = some (List.replicate s 0) := by rw [zerosA, List.getElem?_map, hak.out]; simp
    have hzl : (zerosA A).length = n := by rw [zerosA, List.length_map]; exact hn.out
    rw [← memRows_snoc _ _ _ _ _ _ _ _ (by rw [List.length_take]; omega) k (by rw [List.length_take]; omega), ← take_snoc' hzk] at hfin
    replace hfin := hidden hfin
    have hB5 := hidden (hBp4.out.set 0 (.slice a4 (k + 1) c4))
    have hX5 := hidden (hX4.out.setCell (p := ⟨p, 0, none⟩) hp2 (.slice a4 (k + 1) c4))
    go_wp2_with fail
    go_roundw
    case rel => exact ⟨k + 1, by omega, by go_num, _, _, _, hfin, hidden (by simp [hlk]), hB5, hX5, hRs5⟩
    case measure => simp [intOf] <;> omega
   ·obtain rfl : k = n := by omega
    have hlt' : ¬ ((k : Int) < (k : Int)) := by omega
    obtain ⟨d0, d1⟩ := hblk.out.c2
    obtain ⟨e0, e1⟩ := hres.out.c2
    obtain ⟨f0, f1⟩ := hres.out.fz2
    obtain ⟨av, cv, rfl⟩ : ∃ a c, vx = .slice a 16 c := ⟨_, _, hvxI.out.symm⟩
    go_wp2_with fail
    have c50 : Chg [w.heap.size + 1] wr ((wr.setCell ⟨w.heap.size + 1, 0, none⟩ (.slice al k cl)).setCell ⟨w.heap.size + 1, 1, none⟩ (.slice av 16 cv)) := ((Chg.refl _ _).setCell (Or.inl (by simp)) _).setCell (Or.inl (by simp)) _
    have hR := hrows.out.chg c50 (fun x hx hm => by
     rw [List.mem_singleton.1 hx] at hm
     obtain ⟨r, hr, hv⟩ := mem_blks.1 hm
     have ho := hrows.out.own r hr
     have ht : r.t = 27 ∨ r.t = 42 := by
      unfold memRows at hr
      rcases List.mem_append.1 hr with hr | hr
      ·simp only [List.mem_cons, List.not_mem_nil, or_false] at hr
       rcases hr with rfl | rfl
       ·exact Or.inl rfl
       ·exact Or.inr rfl
      ·obtain ⟨j, hj, e⟩ := List.getElem_of_mem hr
       rw [← e, List.getElem_zipWith]
       exact Or.inr rfl
     exact own_ne_blk ho hres.out (by rcases ht with e | e <;> rw [e] <;> decide) hv)
    have hzl : (zerosA A).length = k := by rw [zerosA, List.length_map]; exact hn.out
    rw [show (zerosA A).take k = zerosA A by rw [← hzl, List.take_length]] at hR
    have hpost : SP (.returned (.tuple #[.agg #[.slice al k cl, .slice av 16 cv], .int .i64 0])) ((wr.setCell ⟨w.heap.size + 1, 0, none⟩ (.slice al k cl)).setCell ⟨w.heap.size + 1, 1, none⟩ (.slice av 16 cv)) := by
     rw [hz.out, if_pos trivial]
     exact ⟨_, _, rfl, memRows_own hR, (hext.out.setCell (p := ⟨w.heap.size + 1, 0, none⟩) (Nat.le_succ _) _).setCell (p := ⟨w.heap.size + 1, 1, none⟩) (Nat.le_succ _) _⟩
    have pz0 : World.cell? ((wr.setCell ⟨w.heap.size + 1, 0, none⟩ (.slice al k cl)).setCell ⟨w.heap.size + 1, 1, none⟩ (.slice av 16 cv)) ⟨w.heap.size + 1, 0, none⟩ = some (.slice al k cl) := ((hres.out.set 0 (.slice al k cl)).set 1 (.slice av 16 cv)).cell 0 _ rfl
    have pz1 : World.cell? ((wr.setCell ⟨w.heap.size + 1, 0, none⟩ (.slice al k cl)).setCell ⟨w.heap.size + 1, 1, none⟩ (.slice av 16 cv)) ⟨w.heap.size + 1, 1, none⟩ = some (.slice av 16 cv) := ((hres.out.set 0 (.slice al k cl)).set 1 (.slice av 16 cv)).cell 1 _ rfl
    refine bodyPost_ret (v := .tuple #[.agg #[.slice al k cl, .slice av 16 cv], .int .i64 0]) (by simp [results, Tryz.results13, go_sem, pz0, pz1]) rfl hpost
 ·go_enter Tryz.func13, Tryz.ntmps13
  go_wp2_with fail
  refine hcl.out.mono ?_
  rintro x w1 ⟨rfl, hX1⟩
  have hX2 := X1.trans hX1
  have BR2 := BR.ext hX1
  obtain ⟨e0, e1⟩ := BR2.c2
  obtain ⟨f0, f1⟩ := BR2.fz2
  clear b0 b1 b2 P0 BR hX1 X1 X0
  go_wp2_with fail
  have hpost : SP (.returned (.tuple #[.agg #[.slice none 0 0, .slice none 0 0], .int .i64 fe])) ((w1.setCell ⟨w.heap.size + 1, 0, none⟩ (.slice none 0 0)).setCell ⟨w.heap.size + 1, 1, none⟩ (.slice none 0 0)) := by
   rw [hz.out, if_neg h0]
   exact ⟨rfl, (hX2.setCell (p := ⟨w.heap.size + 1, 0, none⟩) (Nat.le_succ _) _).setCell (p := ⟨w.heap.size + 1, 1, none⟩) (Nat.le_succ _) _⟩
  have pz0 : World.cell? ((w1.setCell ⟨w.heap.size + 1, 0, none⟩ (.slice none 0 0)).setCell ⟨w.heap.size + 1, 1, none⟩ (.slice none 0 0)) ⟨w.heap.size + 1, 0, none⟩ = some (.slice none 0 0) := ((BR2.set 0 (.slice none 0 0)).set 1 (.slice none 0 0)).cell 0 _ rfl
  have pz1 : World.cell? ((w1.setCell ⟨w.heap.size + 1, 0, none⟩ (.slice none 0 0)).setCell ⟨w.heap.size + 1, 1, none⟩ (.slice none 0 0)) ⟨w.heap.size + 1, 1, none⟩ = some (.slice none 0 0) := ((BR2.set 0 (.slice none 0 0)).set 1 (.slice none 0 0)).cell 1 _ rfl
  refine bodyPost_ret (v := .tuple #[.agg #[.slice none 0 0, .slice none 0 0], .int .i64 fe]) (by simp [results, Tryz.results13, go_sem, pz0, pz1]) rfl hpost
theorem big_any (x : Int) (w : World) : Calls Tryz.prog 35 #[.int .u32 x] w fun e w' => e = .returned (.bool (decide (255 < x))) ∧ Ext w w' := by
 by_cases h : 255 < x
 ·go_enter Tryz.func35, Tryz.ntmps35
  go_wp2_with fail
  go_ret
  exact ⟨ret_bool (by simp; omega), Ext.refl _⟩
 ·go_enter Tryz.func35, Tryz.ntmps35
  go_wp2_with fail
  go_ret
  exact ⟨ret_bool (by simp; omega), Ext.refl _⟩
def bigA (l : List Int) : Bool := l.any (fun x => decide (255 < x))
theorem r32_at {w : World} {b off n cap : Nat} {l : List Int} (h : R32 w (.slice (some ⟨b, off, none⟩) n cap) l) (hn : l.length = n) (k : Nat) (x : Int) (hx : l[k]? = some x) : w.cell? ⟨b, off + k, none⟩ = some (.int .u32 x) := by
 unfold R32 at h
 rw [hn] at h
 exact rd_at h k _ (by rw [List.getElem?_map, hx]; rfl)
theorem index32_any (v : Value) (P : List Int) (hl : P.length ≤ 1000000) (w : World) (h : R32 w v P) :
  Calls Tryz.prog 47 #[v, .func (.func 35) #[] #[]] w fun e w' => ∃ i : Int, e = .returned (.int .i64 i) ∧ decide (0 ≤ i) = bigA P ∧ Ext w w' := by
 obtain ⟨a, cap, rfl, h1, h2, h3⟩ := Rd.shape h
 obtain ⟨n, hn⟩ := ex P.length
 rw [hn] at h1 hl ⊢
 replace h := hidden h
 replace hn := hidden hn
 have hbad := big_any
 replace hbad := hidden hbad
 go_enter Tryz.func47, Tryz.ntmps47
 go_wp2_with fail
 go_loopw [8] (fun i wr => ∃ k : Nat, k ≤ n ∧ i = .int .i64 (k : Int) ∧ Hid (bigA (P.take k) = false) ∧ Ext w wr) (fun i _ => n - (intOf i).toNat)
 case atStart => exact ⟨0, by omega, rfl, by show _ = _; rfl, Ext.refl _⟩
 case round =>
  obtain ⟨k, hk, rfl, hq, hX⟩ := hrel
  obtain ⟨W, hWW⟩ : ∃ Z, Z = wr := ⟨_, rfl⟩
  subst hWW
  by_cases hlt : k < n
  ·have hlt' : (k : Int) < (n : Int) := by omega
   obtain ⟨p, oa, rfl, -, -⟩ := Rd.cells (cs := P.map (Value.int .u32)) (w := w) (sz := 1) (by have := h.out; unfold R32 at this; rw [hn.out] at this; exact this) (show 0 < n by omega)
   obtain ⟨x, hPk⟩ : ∃ x, P[k]? = some x := ⟨_, List.getElem?_eq_getElem (by rw [hn.out]; exact hlt)⟩
   have hx := hX.cell (r32_at h.out rfl k x hPk)
   have hst : bigA (P.take (k + 1)) = (bigA (P.take k) || decide (255 < x)) := by
    rw [take_snoc' hPk]; unfold bigA; simp
   have hmem : x ∈ P := List.mem_of_getElem? hPk
   have hb1 := hbad.out x
   obtain ⟨bb, hbb⟩ := ex (decide (255 < x))
   have hany : bb = true → bigA P = true := fun e => by unfold bigA; rw [List.any_eq_true]; exact ⟨x, hmem, by rw [hbb, e]⟩
   rw [hbb, hq.out, Bool.false_or] at hst
   simp only [hbb] at hb1
   replace hst := hidden hst
   replace hb1 := hidden hb1
   replace hany := hidden hany
   clear hPk hmem hbb
   go_wp2_with fail
   refine (hb1.out _).mono ?_
   rintro e w2 ⟨rfl, g2⟩
   cases bb with
   | true =>
    have hf := hany.out rfl
    replace hf := hidden hf
    go_wp2_with fail
    go_ret
    exact ⟨_, rfl, by rw [hf.out]; simp, hX.trans g2⟩
   | false =>
    go_wp2_with fail
    go_round
    case rel => exact ⟨k + 1, by omega, by go_num, hst, hX.trans g2⟩
    case measure => simp [intOf]; omega
  ·have hf : Hid (bigA P = false) := hidden (by have := hq.out; rw [List.take_of_length_le (by rw [hn.out]; omega)] at this; exact this)
   go_wp2_with fail
   go_ret
   exact ⟨_, rfl, by rw [hf.out]; simp, hX⟩
theorem contains32_any (v : Value) (P : List Int) (hl : P.length ≤ 1000000) (w : World) (h : R32 w v P) :
  Calls Tryz.prog 34 #[v, .func (.func 35) #[] #[]] w fun e w' => e = .returned (.bool (bigA P)) ∧ Ext w w' := by
 have hi := index32_any v P hl w h
 obtain ⟨a, cap, rfl, h1, h2, h3⟩ := Rd.shape h
 replace hi := hidden hi
 clear h
 obtain ⟨bb, hbb⟩ := ex (bigA P)
 rw [hbb]
 replace hbb := hidden hbb
 go_enter Tryz.func34, Tryz.ntmps34
 go_wp2_with fail
 refine hi.out.mono ?_
 rintro e w1 ⟨i, rfl, hd, g⟩
 rw [hbb.out] at hd
 cases bb with
 | true =>
  have h0 : 0 ≤ i := by simpa using hd
  clear hd
  go_wp2_with fail
  go_ret
  exact ⟨ret_bool (by simp; try omega), g⟩
 | false =>
  have h0 : ¬ 0 ≤ i := by simpa using hd
  clear hd
  go_wp2_with fail
  go_ret
  exact ⟨ret_bool (by simp; try omega), g⟩
def fit1 (x : (Bool × Int) × List Int) : Bool := decide ((x.2.length : Int) = x.1.2) && (x.1.1 || !bigA x.2)
def fitsF (A : List (Bool × Int)) (ar : List (List Int)) (cx : List Int) : Bool := decide (ar.length = A.length) && decide (cx.length = 16) && (A.zip ar).all fit1
def chkM (A : List (Bool × Int)) (L : Int) (C : List (Int × Int)) (ar : List (List Int)) (cx : List Int) : Int := if formE A L C = 0 then (if fitsF A ar cx = true then 0 else 3) else formE A L C
theorem callVD {P : Program} {md : Region.Mode} {ops : Array Oper} {Q : Exit → Act → World → Prop} {S : World → Prop} {D : List Nat} (i : Nat) {oi : Oper} {d : Tmp} {fuel : Nat} {listed : Array Bool} {a : Act} {w : World} (f : FuncId) (args : Array Value) {R : Ending → World → Prop} (hi : ops[i]? = some oi) (hd : oi.dst = some d)
  (hr : Region.ready md ops listed = [i]) (hw : Region.wanted oi (yielded ops a.tmps) = true) (hrun : (execOp a.eval oi).run P w = .ok (.enter f args) w) (hc : Calls P f args w R)
  (h : ∀ e w', R e w' → (∃ v, e = .returned v ∧ (i ∉ D → S w') ∧ wpAnyD P md ops Q S D fuel (listed.setIfInBounds i true) { a with tmps := a.tmps.setIfInBounds d v } w') ∨ (∃ c, e = .panicked c ∧ Q (.panic c) a w')) : wpAnyD P md ops Q S D (fuel + 1) listed a w :=
 callD i f args hi hr hw hrun hc (by rw [hd]; exact h)
theorem zip_get {α β : Type} : ∀ (l : List α) (m : List β) (k : Nat) (x : α) (y : β), l[k]? = some x → m[k]? = some y → (l.zip m)[k]? = some (x, y)
 | [], _, _, _, _, h, _ => by simp at h
 | _ :: _, [], _, _, _, _, h => by simp at h
 | a :: l, b :: m, 0, _, _, h, h' => by simp at h h'; simp [h, h']
 | a :: l, b :: m, k + 1, _, _, h, h' => by simp only [List.getElem?_cons_succ, List.zip_cons_cons] at h h' ⊢; exact zip_get l m k _ _ h h'
theorem fit_no {A : List (Bool × Int)} {ar : List (List Int)} {k : Nat} {x : Bool × Int} {a : List Int} (hx : A[k]? = some x) (ha : ar[k]? = some a) (hf : fit1 (x, a) = false) : (A.zip ar).all fit1 = false := by
 rw [List.all_eq_false]
 exact ⟨_, List.mem_of_getElem? (zip_get A ar k x a hx ha), by rw [hf]; decide⟩
theorem icheckm_any (va vc ma mc : Value) (A : List (Bool × Int)) (L : Int) (C : List (Int × Int)) (ar : List (List Int)) (cx : List Int) (hA : OkA A) (hC : OkI C) (hL0 : -9223372036854775808 ≤ L) (hL1 : L ≤ 9223372036854775807) (w : World) (ra : Arr w va A) (rc : Cod w vc C) (hM : MemR w ma mc ar cx) (hal : ∀ a ∈ ar, a.length ≤ 100000) :
  Calls Tryz.prog 16 #[.agg #[va, .int .i64 L, vc], .agg #[ma, mc]] w fun x w' => x = .returned (.int .i64 (chkM A L C ar cx)) ∧ Ext w w' := by
 have X0 := (Ext.refl w).alloc (.cells #[va, .int .i64 L, vc] 25)
 have X1 := X0.alloc (.cells #[ma, mc] 29)
 have P0 := (Blk.new w [va, .int .i64 L, vc] 25).alloc (.cells #[ma, mc] 29)
 have M0 := blk_at1 (w.alloc (.cells #[va, .int .i64 L, vc] 25)) [ma, mc] 29 (w.heap.size + 1) (Array.size_push ..)
 have hcl := hidden (itform_any va vc A L C hA hC hL0 hL1 _ (Rd.ext ra X1) (Rd.ext rc X1))
 obtain ⟨b0, b1, b2⟩ := P0.c3
 obtain ⟨m0, m1⟩ := M0.c2
 have raI := hidden ra
 obtain ⟨vs, hM1, hM2, hM3⟩ := hM
 have hM1I := hidden hM1
 have hM2I := hidden hM2
 obtain ⟨aa, ca, rfl, hca, hca2, -⟩ := Rd.shape ra
 obtain ⟨ac, cc, rfl, -⟩ := Rd.shape rc
 obtain ⟨am, cm, rfl, hcm, hcm2, -⟩ := Rd.shape hM1
 obtain ⟨ax, cxx, rfl, hcx, hcx2, -⟩ := Rd.shape hM3
 have hok := fun h => formE_ok (A := A) (L := L) (C := C) h
 have hz := hidden (show chkM A L C ar cx = if formE A L C = 0 then (if fitsF A ar cx = true then 0 else 3) else formE A L C from rfl)
 have hfit := hidden (show fitsF A ar cx = (decide (ar.length = A.length) && decide (cx.length = 16) && (A.zip ar).all fit1) from rfl)
 generalize chkM A L C ar cx = cR at *
 generalize fitsF A ar cx = fR at *
 generalize hn : A.length = n at *
 generalize hm : C.length = m at *
 generalize hx : cx.length = xl at *
 generalize hr : ar.length = rl at *
 generalize hf : formE A L C = fe at *
 replace hm := hidden hm
 replace hn := hidden hn
 replace hx := hidden hx
 replace hr := hidden hr
 have hokI := hidden hok
 have halI := hidden hal
 clear ra rc hA hC hf hok hM1 hM2 hM3 hal
 by_cases h0 : fe = 0
 ·subst h0
  obtain ⟨hn8, hA2, -, -, -⟩ := hokI.out rfl
  replace hA2 := hidden hA2
  rw [if_pos rfl] at hz
  go_enter Tryz.func16, Tryz.ntmps16
  go_wp2_with fail
  refine hcl.out.mono ?_
  rintro x w1 ⟨rfl, hX1⟩
  have XA := X1.trans hX1
  have c0 := hX1.cell b0
  have n0 := hX1.cell m0
  have n1 := hX1.cell m1
  clear hX1 b0 m0 m1 b1 b2 X1 X0 hcl P0 M0
  by_cases hrl : rl = n
  ·subst hrl
   by_cases hxl : xl = 16
   ·subst hxl
    rw [decide_eq_true rfl, decide_eq_true rfl, Bool.true_and, Bool.true_and] at hfit
    replace XA := hidden XA
    go_wp2_with fail
    go_loopw [29] (fun ix wr => ∃ k : Nat, k ≤ rl ∧ ix = .int .i64 (k : Int) ∧ Hid (((A.zip ar).take k).all fit1 = true) ∧ Hid (Ext w1 wr)) (fun ix _ => (rl - intOf ix).toNat)
    case atStart => exact ⟨0, by omega, rfl, hidden rfl, hidden (Ext.refl w1)⟩
    case round =>
     obtain ⟨k, hk, rfl, hfk, hext⟩ := hrel
     by_cases hlt : k < rl
     ·have hlt' : (k : Int) < (rl : Int) := by omega
      obtain ⟨b, off, rfl, -, -⟩ := Rd.cells (cs := A.flatMap cA) (w := w) (sz := 2) (by have := raI.out; unfold Arr at this; rw [hn.out] at this; exact this) (show 0 < rl by omega)
      obtain ⟨x, hak⟩ : ∃ x, A[k]? = some x := ⟨_, List.getElem?_eq_getElem (by rw [hn.out]; exact hlt)⟩
      obtain ⟨a, hrk⟩ : ∃ x, ar[k]? = some x := ⟨_, List.getElem?_eq_getElem (by rw [hr.out]; exact hlt)⟩
      obtain ⟨mb, mo, rfl, -, -⟩ := hM1I.out.cells (by omega)
      obtain ⟨vk, hvk⟩ : ∃ v, vs[k]? = some v := ⟨_, List.getElem?_eq_getElem (by have := hM1I.out.len; omega)⟩
      obtain ⟨x0, x1⟩ := arr_get raI.out hn.out k x hak
      have XW := hidden (XA.out.trans hext.out)
      have x0' := XW.out.cell x0
      have x1' := XW.out.cell x1
      have xk := XW.out.cell (rd_at hM1I.out k vk hvk)
      have xq := hext.out.cell n0
      have hRk := hidden ((hM2I.out k vk a hvk hrk).ext XW.out)
      obtain ⟨ae, ce, rfl, -⟩ := Rd.shape (hM2I.out k vk a hvk hrk)
      have hal1 := halI.out a (List.mem_of_getElem? hrk)
      have hx12 := hA2.out x (List.mem_of_getElem? hak)
      have hzk := zip_get A ar k x a hak hrk
      have hno := fun h => fit_no hak hrk h
      have hstep : ((A.zip ar).take (k + 1)).all fit1 = fit1 (x, a) := by
       rw [take_snoc' hzk, List.all_append, hfk.out]; simp
      have hf1 : fit1 (x, a) = (decide ((a.length : Int) = x.2) && (x.1 || !bigA a)) := rfl
      obtain ⟨bb, hbb⟩ := ex (bigA a)
      have hcon := hidden (fun (W : World) (h : Ext wr W) => contains32_any _ a (by omega) W (Rd.ext hRk.out h))
      rw [hbb] at hf1 hcon
      have hzl : (A.zip ar).length = rl := by rw [List.length_zip, hn.out, hr.out, Nat.min_self]
      obtain ⟨s, hs⟩ := ex a.length
      obtain ⟨wd, xs⟩ := x
      rw [hs] at xk hcon hf1 hal1
      simp only at x0' x1' hf1 hx12
      obtain ⟨fv, hfv⟩ := ex (fit1 ((wd, xs), a))
      rw [hfv] at hf1 hstep hno
      replace hno := hidden hno
      replace hstep := hidden hstep
      replace hs := hidden hs
      have XZ := (Ext.refl wr).alloc (.cells #[.bool wd, .int .i64 xs] 70)
      have hgb := Blk.new wr [.bool wd, .int .i64 xs] 70
      have d0 := XZ.cell xq
      have dk := XZ.cell xk
      have hextW := hidden (hext.out.trans XZ)
      replace hcon := hidden (fun (W : World) (h : Ext _ W) => hcon.out W (XZ.trans h))
      clear x0 x1 hak hrk hvk hzk hRk hbb hfv XZ
      go_upto_region 9 with fail
      obtain ⟨W1, hW1⟩ := ex (wr.alloc (.cells #[.bool wd, .int .i64 xs] 70))
      rw [hW1] at hgb d0 dk hcon hextW ⊢
      clear hW1 x0' x1' xk xq
      obtain ⟨g, hg⟩ := ex wr.heap.size
      rw [hg] at hgb ⊢
      clear hg
      obtain ⟨dw, d1⟩ := hgb.c2
      clear hgb
      by_cases hsx : (s : Int) = xs
      ·subst hsx
       rw [decide_eq_true rfl, Bool.true_and] at hf1
       cases wd
       ·rw [Bool.false_or] at hf1
        refine wp_region_D (S := fun w' => w'.cell? ⟨w.heap.size + 1, 0, none⟩ = some (.slice (some ⟨mb, mo, none⟩) rl cm) ∧ w'.cell? ⟨mb, mo + k, none⟩ = some (.slice ae s ce) ∧ w'.cell? ⟨g, 1, none⟩ = some (.int .i64 (s : Int)) ∧ w'.cell? ⟨g, 0, none⟩ = some (.bool false)) (D := []) (by kernel_rfl) ⟨d0, dk, d1, dw⟩ (fun HS => ?_)
        refine tk 0 [1, 3, 4, 5, 8, 9, 10, 11, 12, 13, 14, 15, 16, 17, 18, 19, 20, 21] (.pointer (some ⟨w.heap.size + 1, 0, none⟩)) HS ?_; try simp only [sx]
        refine tk 1 [3, 4, 5, 8, 9, 10, 11, 12, 13, 14, 15, 16, 17, 18, 19, 20, 21] (.slice (some ⟨mb, mo, none⟩) rl cm) HS ?_; try simp only [sx]
        refine tk 2 [3, 4, 5, 8, 9, 10, 11, 12, 13, 14, 15, 16, 17, 18, 19, 20, 21] (.int .i64 (k : Int)) HS ?_; try simp only [sx]
        refine tk 3 [4, 5, 8, 9, 10, 11, 12, 13, 14, 15, 16, 17, 18, 19, 20, 21] (.pointer (some ⟨mb, mo + k, none⟩)) HS ?_; try simp only [sx]
        refine tk 4 [5, 8, 9, 10, 11, 12, 13, 14, 15, 16, 17, 18, 19, 20, 21] (.slice ae s ce) HS ?_; try simp only [sx]
        refine tk 5 [8, 9, 10, 11, 12, 13, 14, 15, 16, 17, 18, 19, 20, 21] (.int .i64 (s : Int)) HS ?_; try simp only [sx]
        refine tk 6 [7, 8, 9, 10, 11, 12, 13, 14, 15, 16, 17, 18, 19, 20, 21] (.pointer (some ⟨g, 1, none⟩)) HS ?_; try simp only [sx]
        refine tk 7 [8, 9, 10, 11, 12, 13, 14, 15, 16, 17, 18, 19, 20, 21] (.int .i64 (s : Int)) HS ?_; try simp only [sx]
        refine tk 8 [9, 10, 11, 12, 13, 14, 15, 16, 17, 18, 19, 20, 21] (.bool false) HS ?_; try simp only [sx]
        refine tk 9 [10, 11, 12, 13, 14, 15, 16, 17, 18, 19, 20, 21] (.bool false) HS ?_; try simp only [sx]
        refine tk 10 [11, 12, 13, 14, 15, 16, 17, 18, 19, 20, 21] (.pointer (some ⟨g, 0, none⟩)) HS ?_; try simp only [sx]
        refine tk 11 [12, 13, 14, 15, 16, 17, 18, 19, 20, 21] (.bool false) HS ?_; try simp only [sx]
        refine tk 12 [13, 14, 15, 16, 17, 18, 19, 20, 21] (.bool true) HS ?_; try simp only [sx]
        refine tk 13 [14, 15, 16, 17, 18, 19, 20, 21] (.bool true) HS ?_; try simp only [sx]
        refine tk 14 [15, 17, 18, 19, 20, 21] (.pointer (some ⟨w.heap.size + 1, 0, none⟩)) HS ?_; try simp only [sx]
        refine tk 15 [17, 18, 19, 20, 21] (.slice (some ⟨mb, mo, none⟩) rl cm) HS ?_; try simp only [sx]
        refine tk 16 [17, 18, 19, 20, 21] (.int .i64 (k : Int)) HS ?_; try simp only [sx]
        refine tk 17 [18, 19, 20, 21] (.pointer (some ⟨mb, mo + k, none⟩)) HS ?_; try simp only [sx]
        refine tk 18 [19, 20, 21] (.slice ae s ce) HS ?_; try simp only [sx]
        refine callVD 19 34 #[.slice ae s ce, .func (.func 35) #[] #[]] rfl rfl (by kernel_rfl) (by rfl) (by go_simp) (hcon.out W1.drew (Ext.refl W1).drew) ?_
        rintro x w2 ⟨rfl, hX2⟩
        have HS2 := hidden (And.intro (hX2.cell HS.1) (And.intro (hX2.cell HS.2.1) (And.intro (hX2.cell HS.2.2.1) (hX2.cell HS.2.2.2))))
        refine Or.inl ⟨_, rfl, fun _ => HS2.out, ?_⟩
        try simp only [Act.put, sx]
        refine tk 20 [21] (.bool bb) HS2.out ?_; try simp only [sx]
        refine tk 21 [] (.bool bb) HS2.out ?_; try simp only [sx]
        refine wpAnyD_done (by kernel_rfl) ?_ _
        show _
        have hextF := hidden (hextW.out.trans ((Ext.refl W1).drew.trans hX2))
        clear HS2 hX2 HS hextW hcon d0 d1 dk dw
        cases bb
        ·have hst := hstep.out
         rw [hf1] at hst
         replace hst := hidden hst
         go_wp2_with fail
         go_roundw
         case rel => exact ⟨k + 1, by omega, by go_num, hst, hextF⟩
         case measure => simp [intOf]; omega
        ·have hc3 : cR = 3 := by rw [hz.out, hfit.out, hno.out (by rw [hf1]; rfl)]; simp
         subst hc3
         go_wp2_with fail
         go_ret
         exact ⟨rfl, XA.out.trans hextF.out⟩
       ·rw [Bool.true_or] at hf1
        have hst := hstep.out
        rw [hf1] at hst
        replace hst := hidden hst
        have hextF := hidden fun n => (hextW.out.drewN n)
        clear hcon hextW
        go_quiet (fail)
        go_wp2_with fail
        go_roundw
        case rel => exact ⟨k + 1, by omega, by go_num, hst, hidden (hextF.out _)⟩
        case measure => simp [intOf]; omega
      ·have hsx' : ((s : Int) != xs) = true := by simpa using hsx
       rw [decide_eq_false hsx, Bool.false_and] at hf1
       have hc3 : cR = 3 := by rw [hz.out, hfit.out, hno.out hf1]; simp
       subst hc3
       have hextF := hidden fun n => (hextW.out.drewN n)
       clear hcon hextW
       go_quiet (fail)
       go_wp2_with fail
       go_ret
       exact ⟨rfl, XA.out.trans (hextF.out _)⟩
     ·obtain rfl : k = rl := by omega
      have hlt' : ¬ ((k : Int) < (k : Int)) := by omega
      have hc3 : cR = 0 := by
       have h1 := hfk.out
       rw [List.take_of_length_le (by rw [List.length_zip, hn.out, hr.out, Nat.min_self]; exact Nat.le_refl _)] at h1
       rw [hz.out, hfit.out, h1]
       rfl
      subst hc3
      go_wp2_with fail
      go_ret
      exact ⟨rfl, XA.out.trans hext.out⟩
   ·have hxl' : ((xl : Int) != 16) = true := by simp; omega
    have hc3 : cR = 3 := by rw [hz.out, hfit.out, decide_eq_false hxl]; simp
    subst hc3
    go_wp2_with fail
    go_ret
    exact ⟨rfl, XA⟩
  ·have hrl' : ((rl : Int) != (n : Int)) = true := by simp; omega
   have hc3 : cR = 3 := by rw [hz.out, hfit.out, decide_eq_false hrl]; simp
   subst hc3
   go_wp2_with fail
   go_ret
   exact ⟨rfl, XA⟩
 ·rw [if_neg h0] at hz
  have hc3 := hz.out
  subst hc3
  go_enter Tryz.func16, Tryz.ntmps16
  go_wp2_with fail
  refine hcl.out.mono ?_
  rintro x w1 ⟨rfl, hX1⟩
  have hX2 := hidden (X1.trans hX1)
  clear hX1 P0 M0 b0 b1 b2 m0 m1
  go_wp2_with fail
  go_ret
  exact ⟨rfl, hX2.out⟩
end Go.Proofs.YtgjjklajipekdaaGreat
