
import Derived.Test.YtgjjklajipekdaaGreatZx
import Derived.Test.YtgjjklajipekdaaGreatZv
namespace Go.Proofs.YtgjjklajipekdaaGreat
set_option maxHeartbeats 16000000
set_option maxRecDepth 100000
open Go.RowKit
set_option linter.unusedVariables false
set_option linter.unusedSimpArgs false
attribute [local go_sem ↓] Go.wp_at_zero Go.wp_at_succ
theorem rfeed_go (va vc vd : Value) (A : List (Bool × Int)) (L : Int) (C : List (Int × Int)) (D : List Int) (fu : Int) (hA : OkA A) (hC : OkI C) (hL0 : -9223372036854775808 ≤ L) (hL1 : L ≤ 9223372036854775807)
  (hf0 : -9223372036854775808 ≤ fu) (hf1 : fu ≤ 9223372036854775807) (hD : ∀ x ∈ D, 0 ≤ x ∧ x ≤ 255) (w : World) (ra : Arr w va A) (rc : Cod w vc C) (rd : Rd w 1 vd D.length (D.map (Value.int .u8))) (hu : usE A L C = 0) (hlong : ¬ 65536 < D.length) (hfr : 0 ≤ fu ∧ fu ≤ 281474976710656) :
  Calls Tryz.prog 23 #[.agg #[va, .int .i64 L, vc], vd, .int .i64 fu] w (FeedP w (feedR A L C D fu)) := by
 have hform := (usE_ok hu).1
 have hpair0 : (pairR C).2 = 0 := by rw [← usE_pair hform]; exact hu
 have hRR : Hid (feedF A L C D fu (D.length + 1) 0 (zerosA A) (List.replicate 16 0) [] 0 = feedR A L C D fu) := hidden (by unfold feedR; rw [if_neg (by simpa using hu), if_neg hlong, if_pos hfr])
 obtain ⟨-, fAs, -, -, -⟩ := formE_ok hform
 have hmid0 := hidden (mid_start (fu := fu) fAs hfr.1 hfr.2)
 obtain ⟨hfr1, hfr2⟩ := hfr
 generalize feedR A L C D fu = R at *
 have hpair := hidden hpair0
 clear hpair0
 obtain ⟨b, hb⟩ := ex w.heap.size
 obtain ⟨W1, hW1, X1, P1⟩ := alx w #[va, .int .i64 L, vc] [va, .int .i64 L, vc] 25 b hb
 have s1 : W1.heap.size = b + 1 := by rw [← hW1, ← hb]; exact Array.size_push ..
 obtain ⟨W4, hW4, X4, P4⟩ := alx W1 #[.slice none 0 0, .slice none 0 0, .slice none 0 0, .int .i64 0] [.slice none 0 0, .slice none 0 0, .slice none 0 0, .int .i64 0] 48 (b + 1) s1
 have s4 : W4.heap.size = b + 2 := by rw [← hW4]; show (W1.heap.push _).size = _; rw [Array.size_push, s1]
 have XW := hidden (X1.trans X4)
 have hW : Hid (((w.alloc (.cells #[va, .int .i64 L, vc] 25)).alloc (.cells #[.slice none 0 0, .slice none 0 0, .slice none 0 0, .int .i64 0] 48)) = W4) := hidden (by rw [hW1, hW4])
 replace P1 := P1.ext X4
 obtain ⟨p0, p1, p2⟩ := P1.c3
 have P1I := hidden P1
 have P4I := hidden P4
 clear P1 P4 X1 X4 hW1 hW4 s1
 clear W1
 have hst := rstart_any va vc A L C hA hC hL0 hL1 W4 (Rd.ext ra XW.out) (Rd.ext rc XW.out)
 have hpa := hidden (fun (W : World) (h : Ext W4 W) => rpartners_any vc C W (show Code18 W vc C from Rd.ext rc (XW.out.trans h)))
 have hex := hidden (show ∀ (W : World) (h : Ext W4 W) (ar : List (List Int)) (cx out : List Int) (st inp : Int) (en : Bool) (ma mc : Value) (hM : MemR W ma mc ar cx) (hi : U32 inp) (hm : Mid A ar cx out st fu),
   Calls Tryz.prog 20 #[.agg #[va, .int .i64 L, vc], .agg #[ma, mc], .agg #[.int .u32 inp, .bool en, .int .i64 (fu - st)]] W (ExeP W (envOf A L C inp en (fu - st)) (runF (envOf A L C inp en (fu - st)) (startS (envOf A L C inp en (fu - st)) ar cx))) from by
  intro W h ar cx out st inp en ma mc hM hi hm
  have h1 := hm.s0
  have h2 := hm.s1
  have h3 := hm.f1
  rw [← (mid_run (en := en) hC hu hi hm).1]
  exact rrunf_any va vc ma mc A L C ar cx inp en (fu - st) hA hC hL0 hL1 (by omega) (by omega) hi hm.au hm.cu (fun a ha => by have := hm.al a ha; omega) W (Rd.ext ra (XW.out.trans h)) (Rd.ext rc (XW.out.trans h)) hM)
 obtain ⟨i1, hi1, hy0, hy1, hy2⟩ := info_parts u8_info
 have hib := hidden hi1
 clear hi1
 have hue := hidden hu
 clear hu
 rw [show ∀ W, StartP W A L C = fun x w' => ∃ va vc, x = .returned (.tuple #[.agg #[va, vc], .int .i64 0]) ∧ MemO w' W.heap.size va vc (zerosA A) (List.replicate 16 0) ∧ Ext W w' from fun W => by funext x w'; unfold StartP; rw [if_pos hform]] at hst
 replace hform := hidden hform
 have rdI := hidden rd
 obtain ⟨aa, ca, rfl, -⟩ := Rd.shape ra
 obtain ⟨ac, cc, rfl, -⟩ := Rd.shape rc
 obtain ⟨ad, cd, rfl, hcd, hcd2, -⟩ := Rd.shape rd
 have hCI := hidden hC
 have hDI := hidden hD
 have hbw := hidden (show w.heap.size ≤ b + 1 by omega)
 have s4I := hidden s4
 replace hst := hidden hst
 clear ra rc rd hA hC hD s4
 generalize hla : A.length = la at *
 generalize hlc : C.length = lc at *
 generalize hn : D.length = n at *
 replace hla := hidden hla
 replace hlc := hidden hlc
 replace hn := hidden hn
 go_enter Tryz.func23, Tryz.ntmps23
 go_wp2_with fail
 rw [hW.out]
 clear hb
 refine hst.out.mono ?_
 rintro x w1 ⟨va', vc', rfl, hMO, hX1⟩
 have hMO1 := hMO
 obtain ⟨vs', hO1, -, hO2⟩ := hMO1
 replace hO2 : w1.ownsRow W4.heap.size 42 1 vc' 16 ((List.replicate 16 (0 : Int)).map (Value.int .u32)) := hO2
 rw [show (zerosA A).length = la by unfold zerosA; rw [List.length_map, hla.out]] at hO1
 obtain ⟨a1, c1', rfl, -⟩ := own_shape hO1
 obtain ⟨a2, c2', rfl, -⟩ := own_shape hO2
 clear hO1 hO2
 have X2 := (Ext.refl w1).alloc (.cells #[.slice a1 la c1', .slice a2 16 c2'] 29)
 have NM := Blk.new w1 [.slice a1 la c1', .slice a2 16 c2'] 29
 have u0 := (hX1.trans X2).cell p0
 have u1 := (hX1.trans X2).cell p1
 have u2 := (hX1.trans X2).cell p2
 obtain ⟨n0, n1⟩ := NM.c2
 have hX2I := hidden (hX1.trans X2)
 have hMOI := hidden (hMO.chg (Chg.of_ext [] X2) (by simp))
 clear p0 p1 p2 hMO hX1 X2 NM
 go_upto_region 4 with fail
 obtain ⟨mm, hmm⟩ := ex w1.heap.size
 rw [hmm] at n0 n1 ⊢
 obtain ⟨w2, hw2⟩ := ex (w1.alloc (.cells #[.slice a1 la c1', .slice a2 16 c2'] 29))
 rw [show (w1.alloc (.cells ([.slice a1 la c1', .slice a2 16 c2'] : List Value).toArray 29)) = w2 from hw2] at n0 n1
 rw [hw2] at u0 u1 u2 hX2I hMOI ⊢
 replace hw2 := hidden hw2
 replace hmm := hidden hmm
 go_wp2_with fail
 refine (hpa.out w2 hX2I.out).mono ?_
 rintro x w3 ⟨vp, hx, hO, hX3⟩
 rw [hpair.out] at hx
 subst hx
 obtain ⟨ap, cp, rfl, -⟩ := own_shape (show w3.ownsRow _ _ _ vp _ _ from hO)
 have hX1I := hidden (hX2I.out.trans hX3)
 have m0 := hX3.cell n0
 have m1 := hX3.cell n1
 have q0 := hX3.cell u0
 have q1 := hX3.cell u1
 have q2 := hX3.cell u2
 have hMO3 := hidden (hMOI.out.chg (Chg.of_ext [] hX3) (by simp))
 clear hO n0 n1 u0 u1 u2 hX3 hMOI hX2I hpa
 generalize (pairR C).1.length = lp at *
 have hln : ¬ (65536 : Int) < (n : Int) := by omega
 have hfd0 : ¬ fu < 0 := by omega
 have hfd1 : decide (fu < 0) = false := decide_eq_false hfd0
 have hfd2 : ¬ 281474976710656 < fu := by omega
 have hfd3 : decide (281474976710656 < fu) = false := decide_eq_false hfd2
 obtain ⟨z, hz⟩ := ex w3.heap.size
 have Z8 := blk_at1 w3 [.slice a1 la c1', .slice a2 16 c2', .slice none 0 0, .int .i64 0] 48 z hz
 have X8 := (Ext.refl w3).alloc (.cells #[.slice a1 la c1', .slice a2 16 c2', .slice none 0 0, .int .i64 0] 48)
 have hMO8 := hMO3.out.chg (Chg.of_ext [] X8) (by simp)
 obtain ⟨w8, hw8⟩ := ex (w3.alloc (.cells #[.slice a1 la c1', .slice a2 16 c2', .slice none 0 0, .int .i64 0] 48))
 rw [show (w3.alloc (.cells ([.slice a1 la c1', .slice a2 16 c2', .slice none 0 0, .int .i64 0] : List Value).toArray 48)) = w8 from hw8] at Z8
 rw [hw8] at X8 hMO8
 have hB6 := hidden Z8
 have hM6 := hidden hMO8
 have hE6 := hidden X8
 have hzI := hidden hz
 replace hw8 := hidden hw8
 clear Z8 hMO8 X8 hMO3
 clear hfr1 hfr2
 go_upto_region 12 with fail
 rw [hw8.out]
 go_wp2_with fail
 clear hfd0 hfd1 hfd2 hfd3 m0 m1 q0 q1 q2
 go_loopw [13] (fun ix wr => ∃ k : Nat, k ≤ n + 1 ∧ ix = .int .i64 (k : Int) ∧ ∃ (ar : List (List Int)) (cx out : List Int) (st : Int) (e1 e2 e3 : Option Addr) (d1 d2 d3 : Nat), Hid (Mid A ar cx out st fu) ∧ Hid (feedF A L C D fu (n + 1 - k) k ar cx out st = R) ∧ Hid (Blk wr z 48 [.slice e1 ar.length d1, .slice e2 cx.length d2, .slice e3 out.length d3, .int .i64 st]) ∧ Hid (MemO wr W4.heap.size (.slice e1 ar.length d1) (.slice e2 cx.length d2) ar cx) ∧ Hid (wr.ownsRow (z + 1) 5 1 (.slice e3 out.length d3) out.length (out.map (Value.int .u8))) ∧ Hid (Ext w3 wr)) (fun ix _ => (n + 1 - intOf ix).toNat)
 case atStart =>
  refine ⟨0, by omega, rfl, zerosA A, List.replicate 16 0, [], 0, a1, a2, none, c1', c2', 0, hmid0, hRR, ?_, ?_, hidden (World.ownsRow_nil _ _ _ _), hE6⟩
  ·rw [show (zerosA A).length = la by unfold zerosA; rw [List.length_map, hla.out]]; exact hB6
  ·rw [show (zerosA A).length = la by unfold zerosA; rw [List.length_map, hla.out]]; exact hM6
 case round =>
  obtain ⟨k, hk, rfl, ar, cx, out, st, e1, e2, e3, d1, d2, d3, hmid, hfd, hB, hM, hO, hE⟩ := hrel
  have hEW := hX1I.out.trans hE.out
  have PB := P1I.out.ext hEW
  obtain ⟨u0, u1, u2⟩ := PB.c3
  obtain ⟨y0, y1, y2, y3⟩ := hB.out.c4
  replace hEW := hidden hEW
  clear PB hB6 hM6 hE6
  by_cases hlt : k < n + 1
  ·have hlt' : (k : Int) ≤ (n : Int) := by omega
   have hs0 := hmid.out.s0
   have hs1 := hmid.out.s1
   have hfb := hmid.out.f1
   have hsw : IntKind.i64.wrap (fu - st) = fu - st := IntWalk.i64_in _ (by omega)
   obtain ⟨en, hen⟩ := ex (((k : Int) == (n : Int)))
   have hen2 : en = decide (k = n) := by rw [← hen]; by_cases h : k = n <;> simp [h]; omega
   replace hen2 := hidden hen2
   have XC := (Ext.refl wr).alloc (.cells #[.int .u32 0, .bool en, .int .i64 (fu - st)] 44)
   obtain ⟨c, hc⟩ := ex wr.heap.size
   have NC := blk_at1 wr [.int .u32 0, .bool en, .int .i64 (fu - st)] 44 c hc
   obtain ⟨m0, m1, m2⟩ := NC.c3
   have l0 := NC.frozen 0
   have NCI := hidden NC
   have XCI := hidden XC
   clear NC XC
   go_upto_if 67 with fail
   obtain ⟨W6, hW6⟩ := ex (wr.alloc (.cells #[.int .u32 0, .bool en, .int .i64 (fu - st)] 44))
   have NC := NCI.out
   have XC := XCI.out
   rw [show (wr.alloc (.cells ([.int .u32 0, .bool en, .int .i64 (fu - st)] : List Value).toArray 44)) = W6 from hW6] at NC m0 m1 m2 l0
   rw [hW6] at XC ⊢
   clear hW6 XCI NCI u0 u1 u2 y0 y1 y2 y3
   replace XC := hidden XC
   replace NC := hidden NC
   go_cut [14] from 64 to 73 (fun s14 wx => s14 = .pointer (some ⟨c, 0, none⟩) ∧ ∃ (WC : World) (x : Int), wx = WC ∧ Hid ((if k < D.length then D.getD k 0 else 0) = x) ∧ Hid (U32 x) ∧ Hid (Ext wr WC) ∧ Hid (Blk WC c 44 [.int .u32 x, .bool en, .int .i64 (fu - st)]))
   case first => as_aux_lemma =>
    by_cases hkn : k < n
    ·have he : en = false := by rw [hen2.out]; simp; omega
     subst he
     obtain ⟨x, hxk⟩ : ∃ x, D[k]? = some x := ⟨_, List.getElem?_eq_getElem (by rw [hn.out]; exact hkn)⟩
     obtain ⟨hx0, hx1⟩ := hDI.out x (List.mem_of_getElem? hxk)
     obtain ⟨bd, od, rfl, -, -⟩ := Rd.cells (cs := D.map (Value.int .u8)) (w := w) (sz := 1) rdI.out (show 0 < n by omega)
     have dk := ((XW.out.trans hEW.out).trans XC.out).cell (rd_at rdI.out k (.int .u8 x) (by rw [List.getElem?_map, hxk]; rfl))
     have hxw : IntKind.u32.wrap x = x := by rw [IntKind.wrap_u32]; omega
     have hkn' : (k : Int) < (n : Int) := by omega
     have hxkI := hidden hxk
     clear hxk hen
     go_wp2_with fail
     go_meet
     exact ⟨rfl, _, x, rfl, hidden (by rw [if_pos (show k < D.length by rw [hn.out]; exact hkn), List.getD_eq_getElem?_getD, hxkI.out]; rfl), hidden ⟨hx0, by omega⟩, hidden (XC.out.setCell (p := ⟨c, 0, none⟩) (Nat.le_of_eq hc) _), hidden (NC.out.set 0 (.int .u32 x))⟩
    ·have he : en = true := by rw [hen2.out]; simp; omega
     subst he
     have hkn' : ¬ (k : Int) < (n : Int) := by omega
     clear hen
     go_wp2_with fail
     go_meet
     exact ⟨rfl, _, 0, rfl, hidden (if_neg (by rw [hn.out]; omega)), hidden ⟨by omega, by omega⟩, XC, NC⟩
   case rest => as_aux_lemma =>
    obtain ⟨rfl, WC, x, hwc, hxI, hiUI, XC2, NC2⟩ := hcut
    rw [hwc]
    clear hwc m0 m1 m2 l0 XC NC
    have XC := XC2.out
    have NC := NC2.out
    have hiU := hiUI.out
    clear XC2 NC2 hen
    have PB := P1I.out.ext (hEW.out.trans XC)
    obtain ⟨v0, v1, v2⟩ := PB.c3
    have ZB := hB.out.ext XC
    obtain ⟨o0, o1, o2, o3⟩ := ZB.c4
    obtain ⟨m0, m1, m2⟩ := NC.c3
    clear PB ZB NC
    have hmr := mid_run (L := L) (en := en) (inp := x) hCI.out hue.out hiU hmid.out
    have hfd2 := hfd.out
    rw [show n + 1 - k = (n - k) + 1 by omega] at hfd2
    unfold feedF at hfd2
    rw [hxI.out, show decide (k = D.length) = en by rw [hn.out, hen2.out], hmr.1] at hfd2
    obtain ⟨nr, hnr⟩ := hmr.2.2.2
    have hcall := hex.out WC (hEW.out.trans XC) ar cx out st x en _ _ (hM.out.read.ext XC) hiU hmid.out
    obtain ⟨RF, hRF⟩ := ex (runF (envOf A L C x en (fu - st)) (startS (envOf A L C x en (fu - st)) ar cx))
    rw [hRF] at hfd2 hnr hcall
    obtain ⟨EV, hEV⟩ := ex (envOf A L C x en (fu - st))
    rw [hEV] at hcall
    have hBWC := hidden (show W4.heap.size ≤ WC.heap.size from (hEW.out.trans XC).size)
    replace hcall := hidden hcall
    replace hfd2 := hidden hfd2
    replace hnr := hidden hnr
    replace hEV := hidden hEV
    have XCI := hidden XC
    clear hmr hRF XC
    go_wp2_with fail
    refine hcall.out.mono ?_
    clear hcall
    intro y w7 hP
    clear v0 v1 v2 o0 o1 o2 o3 m0 m1 m2
    cases RF with
    | error e =>
     obtain ⟨rfl, hX7⟩ := hP
     have hRe : R = .error e := hfd2.out.symm
     have he0 : e ≠ 0 := ne0_run _ _ hnr.out
     have XG := hE.out.trans (XCI.out.trans (hX7.trans ((Ext.refl w7).alloc (.cells #[.slice none 0 0, .slice none 0 0, .slice none 0 0, .int .i64 0] 48))))
     have hX7I := hidden hX7
     replace hRe := hidden hRe
     replace he0 := hidden he0
     have he0' := he0.out
     clear hX7
     have XGI := hidden XG
     clear XG
     have B4 := P4I.out.ext (hX1I.out.trans XGI.out)
     obtain ⟨f0, f1, f2, f3⟩ := B4.fz4
     obtain ⟨g0, g1, g2, g3⟩ := B4.c4
     have B4I := hidden B4
     have hX4I := hidden (XW.out.trans (hX1I.out.trans XGI.out))
     clear B4
     go_wp2_with fail
     have B5 := set4_blk B4I.out (.slice none 0 0) (.slice none 0 0) (.slice none 0 0) (.int .i64 0)
     obtain ⟨z0, z1, z2, z3⟩ := B5.c4
     refine bodyPost_ret (v := .tuple #[.agg #[.slice none 0 0, .slice none 0 0, .slice none 0 0, .int .i64 0], .int .i64 e]) (by simp [results, Tryz.results23, go_sem, z0, z1, z2, z3]) rfl ?_
     rw [hRe.out]
     exact ⟨rfl, set4_ext hX4I.out hbw.out _ _ _ _⟩
    | ok r =>
     obtain ⟨ar', cx', out', st'⟩ := r
     obtain ⟨va', vc', vo', s', rfl, hMO, hO', hS', rfl, rfl, rfl, rfl, hX7⟩ := hP
     have hMO1 := hMO
     obtain ⟨vs', hO1, -, hO2⟩ := hMO1
     replace hO2 : w7.ownsRow WC.heap.size 42 1 vc' s'.cx.length (s'.cx.map (Value.int .u32)) := hO2
     obtain ⟨f1, g1', rfl, -⟩ := own_shape hO1
     obtain ⟨f2, g2', rfl, -⟩ := own_shape hO2
     obtain ⟨f3, g3', rfl, -⟩ := own_shape hO'
     clear hO1 hO2
     obtain ⟨j1, hj1⟩ := ex s'.ar.length
     obtain ⟨j2, hj2⟩ := ex s'.cx.length
     obtain ⟨j3, hj3⟩ := ex s'.out.length
     obtain ⟨j4, hj4⟩ := ex s'.steps
     rw [hj1, hj2] at hMO ⊢
     rw [hj3] at hO' ⊢
     rw [hj4] at hfd2 hnr ⊢
     obtain ⟨g, hg⟩ := ex w7.heap.size
     have G8 := blk_at1 w7 [.slice f1 j1 g1', .slice f2 j2 g2', .slice f3 j3 g3', .int .i64 j4] 48 g hg
     have X8 := (Ext.refl w7).alloc (.cells #[.slice f1 j1 g1', .slice f2 j2 g2', .slice f3 j3 g3', .int .i64 j4] 48)
     have Z8 := hB.out.ext (XCI.out.trans (hX7.trans X8))
     have MO8 := hidden (hMO.chg (Chg.of_ext [] X8) (by simp))
     have O8 := hidden (own_ext hO' X8)
     have E8 := hidden (hE.out.trans (XCI.out.trans (hX7.trans X8)))
     have Oz8 := hidden (own_ext hO.out (XCI.out.trans (hX7.trans X8)))
     have hzWC := (hB.out.ext XCI.out).lt
     have hWC7 := hX7.size
     have hsI := hidden hS'
     replace hzWC := hidden hzWC
     replace hWC7 := hidden hWC7
     have hgI := hidden hg
     have hj1I := hidden hj1
     have hj2I := hidden hj2
     have hj3I := hidden hj3
     have hj4I := hidden hj4
     obtain ⟨o0, o1, o2, o3⟩ := Z8.c4
     obtain ⟨m0, m1, m2, m3⟩ := G8.c4
     replace Z8 := hidden Z8
     replace G8 := hidden G8
     clear hMO hO' X8 hX7 hS' hj1 hj2 hj3 hj4
     have hst4 : IntKind.i64.wrap (st + j4) = st + j4 := by
      have a1 := hsI.out.s0
      have a2 := hsI.out.s1
      rw [hj4I.out] at a1 a2
      exact IntWalk.i64_in _ (by omega)
     have hol := hmid.out.ol
     have hj3b : j3 ≤ 65536 := by rw [← hj3I.out]; exact hsI.out.out
     go_upto_region 21 with fail
     obtain ⟨W8, hW8'⟩ := ex (w7.alloc (.cells #[.slice f1 j1 g1', .slice f2 j2 g2', .slice f3 j3 g3', .int .i64 j4] 48))
     rw [show (w7.alloc (.cells ([.slice f1 j1 g1', .slice f2 j2 g2', .slice f3 j3 g3', .int .i64 j4] : List Value).toArray 48)) = W8 from hW8'] at G8 m0 m1 m2 m3
     rw [hW8'] at MO8 O8 E8 Oz8 Z8 o0 o1 o2 o3 ⊢
     clear hW8'
     have hz8b := hidden (show z + 1 ≤ W8.drew.heap.size from Z8.out.lt)
     refine rfeed21 _ _ _ _ _ _ _ _ _ _ _ _ _ _ _ _ _ _ _ _ _ _ _ _ _ _ _ _ _ _ _ _ _ _ _ _ _ _ _ _ _ _ _ _ _ _ _ _ _ _ _ _ _ _ _ _ _ _ _ _ _ _ _ _ _ _ _ _ _ _ _ _ _ _ _ _ _ _ _ _ _ _ _ _ _ _ _ _ _ _ _ _ _ _ _ _ _ _ _ _ _ _ _ (fun _ _ _ _ _ h => h) Z8 G8 Oz8 (hidden (Rd.of_own O8.out)) (by simp [Value.oneCell']) hol hj3b hst4 ?_
     intro a9 c9 w9 hown9 hgrow9 hat9 Z9
     have c90 : Chg (Value.slice e3 out.length d3).ownBlock.toList W8.drew w9 := (Chg.refl _ _).grown hgrow9 (fun k hk => Or.inl (by simp [hk]))
     show _
     have Z10 := set4_blk Z9 (.slice f1 j1 g1') (.slice f2 j2 g2') (.slice a9 (out.length + j3) c9) (.int .i64 (st + j4))
     have C10 := set4_chg (w := w9) (z := z) (.slice f1 j1 g1') (.slice f2 j2 g2') (.slice a9 (out.length + j3) c9) (.int .i64 (st + j4))
     have M10 := hidden (((MO8.out.chg ((Chg.of_ext [] (Ext.refl W8).drew)) (by simp)).chg c90 (fun x hx => by have h1 := (own_lt hO.out (show (Value.slice e3 out.length d3).ownBlock = some x by simpa using hx)).2; have h2 := XCI.out.size; omega)).chg C10 (fun x hx => by rw [List.mem_singleton.1 hx]; exact hzWC.out))
     have O10 := hidden (own_low hown9 C10 (fun x hx => by rw [List.mem_singleton.1 hx]; omega))
     have E9 : Ext w3 w9 := ((Chg.of_ext [] (E8.out.trans (Ext.refl W8).drew)).grown hgrow9 (fun k hk => Or.inr (by have h1 := (own_lt Oz8.out hk).1; have h2 := hzI.out; omega))).ext
     have E10 := hidden (set4_ext E9 (Nat.le_of_eq hzI.out) (.slice f1 j1 g1') (.slice f2 j2 g2') (.slice a9 (out.length + j3) c9) (.int .i64 (st + j4)))
     clear Z9 C10 E9 hown9 hgrow9 hat9 c90 o0 o1 o2 o3 m0 m1 m2 m3
     obtain ⟨w10, hw10⟩ := ex (((((w9.setCell ⟨z, 0, none⟩ (.slice f1 j1 g1')).setCell ⟨z, 1, none⟩ (.slice f2 j2 g2')).setCell ⟨z, 2, none⟩ (.slice a9 (out.length + j3) c9)).setCell ⟨z, 3, none⟩ (.int .i64 (st + j4))))
     rw [hw10] at Z10 M10 O10 E10 ⊢
     clear hw10
     have o2 := Z10.cell 2 _ rfl
     have Z10I := hidden Z10
     clear Z10
     have hM10 := hidden (M10.out.base hBWC.out)
     by_cases hl : 65536 < out.length + j3
     ·have hl' : (65536 : Int) < ((out.length + j3 : Nat) : Int) := by omega
      have hRe : Hid (R = .error 5) := hidden (by have := hfd2.out; rw [if_pos (by rw [List.length_append, hj3I.out]; exact hl)] at this; exact this.symm)
      have XG := E10.out
      have XGI := hidden XG
      clear XG
      have B4 := P4I.out.ext (hX1I.out.trans XGI.out)
      obtain ⟨f0, f1, f2, f3⟩ := B4.fz4
      obtain ⟨g0, g1, g2, g3⟩ := B4.c4
      have B4I := hidden B4
      have hX4I := hidden (XW.out.trans (hX1I.out.trans XGI.out))
      clear B4
      go_wp2_with fail
      have B5 := set4_blk B4I.out (.slice none 0 0) (.slice none 0 0) (.slice none 0 0) (.int .i64 0)
      obtain ⟨z0, z1, z2, z3⟩ := B5.c4
      refine bodyPost_ret (v := .tuple #[.agg #[.slice none 0 0, .slice none 0 0, .slice none 0 0, .int .i64 0], .int .i64 5]) (by simp [results, Tryz.results23, go_sem, z0, z1, z2, z3]) rfl ?_
      rw [hRe.out]
      exact ⟨rfl, set4_ext hX4I.out hbw.out _ _ _ _⟩
     ·have hl' : ¬ (65536 : Int) < ((out.length + j3 : Nat) : Int) := by omega
      have hll : (out ++ s'.out).length = out.length + j3 := by rw [List.length_append, hj3I.out]
      have hfd3 : Hid (feedF A L C D fu (n + 1 - (k + 1)) (k + 1) s'.ar s'.cx (out ++ s'.out) (st + j4) = R) := hidden (by have := hfd2.out; rw [if_neg (by rw [hll]; exact hl)] at this; rw [show n + 1 - (k + 1) = n - k by omega]; exact this)
      have hmid2 : Hid (Mid A s'.ar s'.cx (out ++ s'.out) (st + j4) fu) := hidden (by
       have hr := hnr.out
       have hsE := hsI.out
       rw [← hEV.out] at hsE
       rw [← hj4I.out] at hr ⊢
       exact mid_next hCI.out hue.out hiU hmid.out hr hsE (by rw [hll]; omega))
      have hrel : Hid (Blk w10 z 48 [.slice f1 s'.ar.length g1', .slice f2 s'.cx.length g2', .slice a9 (out ++ s'.out).length c9, .int .i64 (st + j4)]) := hidden (by rw [hj1I.out, hj2I.out, hll]; exact Z10I.out)
      have hrelM : Hid (MemO w10 W4.heap.size (.slice f1 s'.ar.length g1') (.slice f2 s'.cx.length g2') s'.ar s'.cx) := hidden (by rw [hj1I.out, hj2I.out]; exact hM10.out)
      have hrelO : Hid (w10.ownsRow (z + 1) 5 1 (.slice a9 (out ++ s'.out).length c9) (out ++ s'.out).length ((out ++ s'.out).map (Value.int .u8))) := hidden (by rw [hll, List.map_append]; exact O10.out)
      go_wp2_with fail
      go_roundw
      case rel => exact ⟨k + 1, by omega, by go_num, s'.ar, s'.cx, out ++ s'.out, st + j4, f1, f2, a9, g1', g2', c9, hmid2, hfd3, hrel, hrelM, hrelO, E10⟩
      case measure => simp [intOf]; omega
  ·have hlt' : ¬ (k : Int) ≤ (n : Int) := by omega
   have hkn1 : k = n + 1 := by omega
   have hRe : R = .ok (ar, cx, out, st) := by
    have := hfd.out
    rw [hkn1, Nat.sub_self] at this
    exact this.symm
   replace hRe := hidden hRe
   clear hkn1
   have B4 := P4I.out.ext hEW.out
   obtain ⟨f0, f1, f2, f3⟩ := B4.fz4
   obtain ⟨g0, g1, g2, g3⟩ := B4.c4
   have B4I := hidden B4
   clear B4
   go_wp2_with fail
   have B5 := set4_blk B4I.out (.slice e1 ar.length d1) (.slice e2 cx.length d2) (.slice e3 out.length d3) (.int .i64 st)
   have C5 := set4_chg (w := wr) (z := b + 1) (.slice e1 ar.length d1) (.slice e2 cx.length d2) (.slice e3 out.length d3) (.int .i64 st)
   obtain ⟨z0, z1, z2, z3⟩ := B5.c4
   refine bodyPost_ret (v := .tuple #[.agg #[.slice e1 ar.length d1, .slice e2 cx.length d2, .slice e3 out.length d3, .int .i64 st], .int .i64 0]) (by simp [results, Tryz.results23, go_sem, z0, z1, z2, z3]) rfl ?_
   rw [hRe.out]
   have k1 := hX1I.out.size
   have k2 := hzI.out
   have k3 := s4I.out
   exact ⟨_, _, _, rfl, (hM.out.chg C5 (fun x hx => by rw [List.mem_singleton.1 hx]; omega)).read, Rd.of_own (own_low hO.out C5 (fun x hx => by rw [List.mem_singleton.1 hx]; omega)), set4_ext (XW.out.trans hEW.out) hbw.out _ _ _ _⟩
theorem feedR_err {A : List (Bool × Int)} {L : Int} {C : List (Int × Int)} {D : List Int} {fu : Int} (h : errF A L C D fu ≠ 0) : feedR A L C D fu = .error (errF A L C D fu) := by
 unfold errF at h ⊢
 unfold feedR
 by_cases h1 : formE A L C = 0
 ·rw [if_pos h1] at h ⊢
  rw [usE_pair h1]
  by_cases h2 : (pairR C).2 = 0
  ·rw [if_pos h2] at h ⊢
   rw [if_neg (by simpa using h2)]
   by_cases h3 : 65536 < D.length
   ·rw [if_pos h3, if_pos h3]
   ·rw [if_neg h3] at h
    rw [if_neg h3, if_neg h3]
    by_cases h4 : fu < 0
    ·rw [if_pos h4, if_neg (by omega)]
    ·rw [if_neg h4] at h
     rw [if_neg h4]
     by_cases h5 : 281474976710656 < fu
     ·rw [if_pos h5, if_neg (by omega)]
     ·rw [if_neg h5] at h; exact absurd rfl h
  ·rw [if_neg h2, if_pos h2]
 ·rw [if_neg h1, usE_form h1, if_pos h1]
theorem errF_0 {A : List (Bool × Int)} {L : Int} {C : List (Int × Int)} {D : List Int} {fu : Int} (h : errF A L C D fu = 0) : usE A L C = 0 ∧ ¬ 65536 < D.length ∧ 0 ≤ fu ∧ fu ≤ 281474976710656 := by
 unfold errF at h
 by_cases h1 : formE A L C = 0
 ·rw [if_pos h1] at h
  by_cases h2 : (pairR C).2 = 0
  ·rw [if_pos h2] at h
   by_cases h3 : 65536 < D.length
   ·rw [if_pos h3] at h; cases h
   ·rw [if_neg h3] at h
    by_cases h4 : fu < 0
    ·rw [if_pos h4] at h; cases h
    ·rw [if_neg h4] at h
     by_cases h5 : 281474976710656 < fu
     ·rw [if_pos h5] at h; cases h
     ·exact ⟨by rw [usE_pair h1]; exact h2, h3, by omega, by omega⟩
  ·rw [if_neg h2] at h; exact absurd h h2
 ·rw [if_neg h1] at h; exact absurd h h1
theorem rfeed_any (va vc vd : Value) (A : List (Bool × Int)) (L : Int) (C : List (Int × Int)) (D : List Int) (fu : Int) (hA : OkA A) (hC : OkI C) (hL0 : -9223372036854775808 ≤ L) (hL1 : L ≤ 9223372036854775807)
  (hf0 : -9223372036854775808 ≤ fu) (hf1 : fu ≤ 9223372036854775807) (hD : ∀ x ∈ D, 0 ≤ x ∧ x ≤ 255) (w : World) (ra : Arr w va A) (rc : Cod w vc C) (rd : Rd w 1 vd D.length (D.map (Value.int .u8))) :
  Calls Tryz.prog 23 #[.agg #[va, .int .i64 L, vc], vd, .int .i64 fu] w (FeedP w (feedR A L C D fu)) := by
 by_cases he : errF A L C D fu = 0
 ·obtain ⟨h1, h2, h3⟩ := errF_0 he
  exact rfeed_go va vc vd A L C D fu hA hC hL0 hL1 hf0 hf1 hD w ra rc rd h1 h2 h3
 ·rw [feedR_err he]
  exact rfeed_err va vc vd A L C D fu hA hC hL0 hL1 hf0 hf1 hD w ra rc rd he
end Go.Proofs.YtgjjklajipekdaaGreat
