/- Feeding is running byte by byte, and the memory always fits: for every program and data. -/
import Derived.Test.YtgjjklajipekdaaGreatYzp
import Derived.Deep.CutRange
namespace Go.Proofs.YtgjjklajipekdaaGreat
open Go.RowKit
set_option linter.unusedVariables false
set_option linter.unusedSimpArgs false
attribute [local go_sem ↓] Go.wp_at_zero Go.wp_at_succ

set_option maxHeartbeats 4000000 in
set_option maxRecDepth 100000 in
theorem InterpreterSplits_law (va : Value) (A : List (Bool × Int)) (L : Int) (vc : Value) (C : List (Int × Int)) (vd : Value) (D : List Int) (hA : OkA A) (hL0 : -9223372036854775808 ≤ L) (hL1 : L ≤ 9223372036854775807) (hC : OkI C) (hD : ∀ x ∈ D, 0 ≤ x ∧ x ≤ 255) (w : World) (ra : Rd w 2 va A.length (A.flatMap cA)) (rc : Rd w 2 vc C.length (C.flatMap cI)) (rd : Rd w 1 vd D.length (D.map (Value.int .u8))) :
    Calls Tryz.prog 6 #[.agg #[va, .int .i64 L, vc], vd] w fun x w' => x = .returned (.bool true) ∧ Ext w w' := by
  have hfe := hidden (fun (W : World) (h : Ext w W) => ifeed_any va vc vd A L C D 3000 hA hC hL0 hL1 (by decide) (by decide) hD W (Rd.ext ra h) (Rd.ext rc h) (Rd.ext rd h))
  have hfw := hidden (fun (W : World) (h : Ext w W) => fewP_any va vc A L C W (Rd.ext ra h) (Rd.ext rc h))
  have haw := hidden awake_any
  have hst0 := hidden (fun (hf : formE A L C = 0) (W : World) (h : Ext w W) => show Calls Tryz.prog 13 #[.agg #[va, .int .i64 L, vc]] W (fun x w' => ∃ ma mc, x = .returned (.tuple #[.agg #[ma, mc], .int .i64 0]) ∧ MemO w' W.heap.size ma mc (zerosA A) (List.replicate 16 0) ∧ Ext W w') from (istart_any va vc A L C hA hC hL0 hL1 W (Rd.ext ra h) (Rd.ext rc h)).mono (fun x w' hx => by unfold StartP at hx; rw [if_pos hf] at hx; exact hx))
  have hst1 := hidden (fun (hf : ¬ formE A L C = 0) (W : World) (h : Ext w W) => show Calls Tryz.prog 13 #[.agg #[va, .int .i64 L, vc]] W (fun x w' => x = .returned (.tuple #[.agg #[.slice none 0 0, .slice none 0 0], .int .i64 (formE A L C)]) ∧ Ext W w') from (istart_any va vc A L C hA hC hL0 hL1 W (Rd.ext ra h) (Rd.ext rc h)).mono (fun x w' hx => by unfold StartP at hx; rw [if_neg hf] at hx; exact hx))
  have hru := hidden (fun (W : World) (h : Ext w W) (R : Out) (k : Nat) (ar : List (List Int)) (cx out : List Int) (st : Int) (ma mc : Value) (hS : SpL A L C D R k ar cx out st) (hM : MemR W ma mc ar cx) => irunf_any va vc ma mc A L C ar cx (inpAt D k) (decide (k = D.length)) (3000 - st) hA hC hL0 hL1 (by have := hS.mid.s1; omega) (by have := hS.mid.s0; omega) (inp_u32 hD k) hS.mid.au hS.mid.cu (fun a ha => by have := hS.mid.al a ha; omega) W (Rd.ext ra h) (Rd.ext rc h) hM)
  have hck := hidden (fun (W : World) (h : Ext w W) (ar : List (List Int)) (cx : List Int) (ma mc : Value) (hM : MemR W ma mc ar cx) (hal : ∀ a ∈ ar, a.length ≤ 65536) => icheckm_any va vc ma mc A L C ar cx hA hC hL0 hL1 W (Rd.ext ra h) (Rd.ext rc h) hM (fun a ha => by have := hal a ha; omega))
  have hstart := hidden (sp_start (A := A) (L := L) (C := C) (D := D))
  have hform := hidden (usE_form (A := A) (L := L) (C := C) (D := D))
  have hCI := hidden hC
  have hDI := hidden hD
  generalize feedR A L C D 3000 = R at hfe hstart hform
  have rdI := hidden rd
  obtain ⟨aa, ca, rfl, -⟩ := Rd.shape ra
  obtain ⟨ac, cc, rfl, -⟩ := Rd.shape rc
  obtain ⟨ad, cd, rfl, -⟩ := Rd.shape rd
  obtain ⟨m0, hm⟩ : ∃ m, A.length = m := ⟨_, rfl⟩
  obtain ⟨n, hn⟩ : ∃ n, C.length = n := ⟨_, rfl⟩
  obtain ⟨dl, hdl⟩ : ∃ n, D.length = n := ⟨_, rfl⟩
  obtain ⟨fe, hfo⟩ : ∃ n, formE A L C = n := ⟨_, rfl⟩
  simp only [hm, hn, hdl] at hfe hfw hst0 hst1 hru hck hstart rdI ⊢
  rw [hfo] at hst0 hst1 hstart hform
  have hdlI := hidden hdl
  clear ra rc rd hm hn hdl hA hC hD hfo
  have hE := hidden (Ext.refl w)
  go_enter Tryz.func6, Tryz.ntmps6
  obtain ⟨b, hb⟩ : ∃ p, w.heap.size = p := ⟨_, rfl⟩
  have XN := (Ext.refl w).alloc (.cells #[.slice aa m0 ca, .int .i64 L, .slice ac n cc] 25)
  have BN := blk_at1 w [.slice aa m0 ca, .int .i64 L, .slice ac n cc] 25 b hb
  obtain ⟨V0, hV0V⟩ : ∃ V, w.alloc (.cells #[.slice aa m0 ca, .int .i64 L, .slice ac n cc] 25) = V := ⟨_, rfl⟩
  rw [show (w.alloc (.cells ([.slice aa m0 ca, .int .i64 L, .slice ac n cc] : List Value).toArray 25)) = V0 from hV0V] at BN
  rw [hV0V] at XN
  replace hE := hidden (hE.out.trans XN)
  have Bb := hidden BN
  clear BN
  clear XN
  replace hV0V := hidden hV0V
  go_upto_region 1 with fail
  rw [hV0V.out]
  clear hV0V hb
  have cb0 := Bb.out.cell 0 _ rfl
  have cb1 := Bb.out.cell 1 _ rfl
  have cb2 := Bb.out.cell 2 _ rfl
  go_wp2_with fail
  refine (hfw.out V0 hE.out).mono ?_
  rintro x w1 ⟨⟨few, rfl, -⟩, hX⟩
  clear cb0 cb1 cb2
  replace Bb := hidden (Bb.out.ext hX)
  replace hE := hidden (hE.out.trans hX)
  clear hX hfw
  cases few with
  | false =>
    go_wp2_with fail
    refine (haw.out _).mono ?_
    rintro x wz ⟨rfl, hX⟩
    go_wp2_with fail
    go_ret
    exact ⟨rfl, (hE.out).trans hX⟩
  | true =>
    by_cases hd : 20 < dl
    · have hd' : decide ((20 : Int) < (dl : Int)) = true := by simp; omega
      go_wp2_with fail
      refine (haw.out _).mono ?_
      rintro x wz ⟨rfl, hX⟩
      go_wp2_with fail
      go_ret
      exact ⟨rfl, (hE.out).trans hX⟩
    · have hd' : decide ((20 : Int) < (dl : Int)) = false := by simp; omega
      have cb0 := Bb.out.cell 0 _ rfl
      have cb1 := Bb.out.cell 1 _ rfl
      have cb2 := Bb.out.cell 2 _ rfl
      go_wp2_with fail
      refine (hfe.out w1 hE.out).mono ?_
      intro x w2 hP
      obtain ⟨a1, a2, a3, n1, n2, n3, c1, c2, c3, sT, eR, rfl, hAll, hX⟩ := feed_all hP
      clear hP hfe
      clear cb0 cb1 cb2
      replace Bb := hidden (Bb.out.ext hX)
      replace hE := hidden (hE.out.trans hX)
      replace hAll := hidden hAll
      clear hX
      obtain ⟨p, hp⟩ : ∃ p, w2.heap.size = p := ⟨_, rfl⟩
      have XN := (Ext.refl w2).alloc (.cells #[.slice a1 n1 c1, .slice a2 n2 c2, .slice a3 n3 c3, .int .i64 sT] 48)
      have BN := blk_at1 w2 [.slice a1 n1 c1, .slice a2 n2 c2, .slice a3 n3 c3, .int .i64 sT] 48 p hp
      obtain ⟨V2, hV2V⟩ : ∃ V, w2.alloc (.cells #[.slice a1 n1 c1, .slice a2 n2 c2, .slice a3 n3 c3, .int .i64 sT] 48) = V := ⟨_, rfl⟩
      rw [show (w2.alloc (.cells ([.slice a1 n1 c1, .slice a2 n2 c2, .slice a3 n3 c3, .int .i64 sT] : List Value).toArray 48)) = V2 from hV2V] at BN
      rw [hV2V] at XN
      replace Bb := hidden (Bb.out.ext XN)
      replace hAll := hidden (hAll.out.ext XN)
      replace hE := hidden (hE.out.trans XN)
      have Bp := hidden BN
      clear BN
      clear XN
      replace hV2V := hidden hV2V
      go_upto_region 4 with fail
      rw [hV2V.out]
      clear hV2V hp
      have cb0 := Bb.out.cell 0 _ rfl
      have cb1 := Bb.out.cell 1 _ rfl
      have cb2 := Bb.out.cell 2 _ rfl
      by_cases h0 : fe = 0
      · subst h0
        have hst := hidden (hst0.out rfl V2 hE.out)
        have hsp := hidden (hstart.out rfl (by omega))
        clear hst0 hst1 hstart hform
        go_wp2_with fail
        refine (hst.out).mono ?_
        rintro x w3 ⟨ma, mc, rfl, hM, hX⟩
        clear cb0 cb1 cb2
        obtain ⟨ml, hml⟩ : ∃ n, (zerosA A).length = n := ⟨_, rfl⟩
        obtain ⟨am, cm, ax, cx0, rfl, rfl⟩ := hM.read.shape ml 16 hml rfl
        obtain ⟨m, hm⟩ : ∃ p, w3.heap.size = p := ⟨_, rfl⟩
        replace Bb := hidden (Bb.out.ext hX)
        replace Bp := hidden (Bp.out.ext hX)
        replace hAll := hidden (hAll.out.ext hX)
        replace hE := hidden (hE.out.trans hX)
        clear hst
        have XN := (Ext.refl w3).alloc (.cells #[.slice am ml cm, .slice ax 16 cx0] 29)
        have BM := blk_at1 w3 [.slice am ml cm, .slice ax 16 cx0] 29 m hm
        obtain ⟨V3, hV3⟩ : ∃ V, w3.alloc (.cells #[.slice am ml cm, .slice ax 16 cx0] 29) = V := ⟨_, rfl⟩
        rw [show (w3.alloc (.cells ([.slice am ml cm, .slice ax 16 cx0] : List Value).toArray 29)) = V3 from hV3] at BM
        rw [hV3] at XN
        have hMX := hidden ((MemX.of_own hM (m := m) (Or.inr (Nat.le_of_eq hm))).ext XN)
        replace BM := hidden BM
        replace XN := hidden XN
        replace hV3 := hidden hV3
        have hmI := hidden hm
        have hmlI := hidden hml
        clear hM hX hml
        go_upto_region 5 with fail
        rw [hV3.out]
        clear hV3 hm
        go_wp2_with fail
        go_loopw [9, 10, 11] (fun vo so ix wr => ∃ (k : Nat) (ar : List (List Int)) (cx out : List Int) (st : Int) (e1 e2 e3 : Option Addr) (d1 d2 d3 : Nat), k ≤ dl + 1 ∧ ix = .int .i64 (k : Int) ∧ so = .int .i64 st ∧ vo = .slice e3 out.length d3 ∧ Hid (SpL A L C D R k ar cx out st) ∧ Hid (Blk wr m 29 [.slice e1 ar.length d1, .slice e2 cx.length d2]) ∧ Hid (MemX m wr (.slice e1 ar.length d1) (.slice e2 cx.length d2) ar cx) ∧ Hid (wr.ownsRow (m + 1) 5 1 (.slice e3 out.length d3) out.length (out.map (Value.int .u8))) ∧ Hid (Ext w3 wr)) (fun _ _ ix _ => (dl + 1 - intOf ix).toNat)
        case atStart =>
          exact ⟨0, zerosA A, List.replicate 16 0, [], 0, am, ax, none, cm, cx0, 0, by omega, rfl, rfl, rfl, hsp, by rw [hmlI.out]; exact BM, by rw [hmlI.out]; exact hMX, hidden (World.ownsRow_nil _ _ _ _), XN⟩
        case round =>
          obtain ⟨k, ar, cx, out, st, e1, e2, e3, d1, d2, d3, hk, rfl, rfl, rfl, hS, hB, hMe, hO, hX3⟩ := hrel
          clear hsp BM hMX XN
          have hkw : IntKind.i64.wrap ((k : Int) + 1) = (k : Int) + 1 := IntWalk.i64_in _ (by omega)
          by_cases hlt : k < dl + 1
          · have hlt' : (k : Int) ≤ (dl : Int) := by omega
            have hs0 := hS.out.mid.s0
            have hs1 := hS.out.mid.s1
            have hsw : IntKind.i64.wrap (3000 - st) = 3000 - st := IntWalk.i64_in _ (by omega)
            obtain ⟨en, hen⟩ : ∃ e, ((k : Int) == (dl : Int)) = e := ⟨_, rfl⟩
            have hen2 : en = decide (k = dl) := by rw [← hen]; by_cases h : k = dl <;> simp [h]; omega
            replace hen2 := hidden hen2
            have XC := (Ext.refl wr).alloc (.cells #[.int .u32 0, .bool en, .int .i64 (3000 - st)] 44)
            obtain ⟨c, hc⟩ : ∃ c, wr.heap.size = c := ⟨_, rfl⟩
            have NC := blk_at1 wr [.int .u32 0, .bool en, .int .i64 (3000 - st)] 44 c hc
            have k0 := NC.cell 0 _ rfl
            have l0 := NC.frozen 0
            have NCI := hidden NC
            have XCI := hidden XC
            clear NC XC
            go_upto_if 59 with fail
            obtain ⟨W6, hW6⟩ : ∃ W, wr.alloc (.cells #[.int .u32 0, .bool en, .int .i64 (3000 - st)] 44) = W := ⟨_, rfl⟩
            have NC := NCI.out
            have XC := XCI.out
            rw [show (wr.alloc (.cells ([.int .u32 0, .bool en, .int .i64 (3000 - st)] : List Value).toArray 44)) = W6 from hW6] at NC k0 l0
            rw [hW6] at XC ⊢
            clear hW6 XCI NCI
            replace XC := hidden XC
            replace NC := hidden NC
            go_cut [12] from 59 to 65 (fun s12 wx => s12 = .pointer (some ⟨c, 0, none⟩) ∧ ∃ (WC : World) (x : Int), wx = WC ∧ Hid (inpAt D k = x) ∧ Hid (Ext wr WC) ∧ Hid (Blk WC c 44 [.int .u32 x, .bool en, .int .i64 (3000 - st)]))
            case first =>
             as_aux_lemma =>
              by_cases hkn : k < dl
              · have hkn' : (k : Int) < (dl : Int) := by omega
                obtain ⟨x, hxk⟩ : ∃ x, D[k]? = some x := ⟨_, List.getElem?_eq_getElem (by rw [hdlI.out]; exact hkn)⟩
                obtain ⟨hx0, hx1⟩ := hDI.out x (List.mem_of_getElem? hxk)
                obtain ⟨bd, od, rfl, -, -⟩ := Rd.cells (cs := D.map (Value.int .u8)) (w := w) (sz := 1) rdI.out (show 0 < dl by omega)
                have dk := (hE.out.trans (hX3.out.trans XC.out)).cell (rd_at rdI.out k (.int .u8 x) (by rw [List.getElem?_map, hxk]; rfl))
                have hxw : IntKind.u32.wrap x = x := by rw [IntKind.wrap_u32]; omega
                have hxkI := hidden hxk
                clear hxk hen
                go_wp2_with fail
                go_meet
                exact ⟨rfl, _, x, rfl, hidden (by unfold inpAt; rw [if_pos (show k < D.length by rw [hdlI.out]; exact hkn), List.getD_eq_getElem?_getD, hxkI.out]; rfl), hidden (XC.out.setCell (p := ⟨c, 0, none⟩) (Nat.le_of_eq hc) _), hidden (NC.out.set 0 (.int .u32 x))⟩
              · have hkn' : ¬ (k : Int) < (dl : Int) := by omega
                clear hen
                go_wp2_with fail
                go_meet
                exact ⟨rfl, _, 0, rfl, hidden (if_neg (by rw [hdlI.out]; omega)), XC, NC⟩
            case rest =>
             as_aux_lemma =>
              obtain ⟨rfl, WC, x, hwc, hxI, XC2, NC2⟩ := hcut
              rw [hwc]
              clear hwc k0 l0 XC NC hen hlt' hsw
              have hEC := hidden (hE.out.trans (hX3.out.trans XC2.out))
              have ZB := Bb.out.ext (hX3.out.trans XC2.out)
              have cb0 := ZB.cell 0 _ rfl
              have cb1 := ZB.cell 1 _ rfl
              have cb2 := ZB.cell 2 _ rfl
              have ZM := hB.out.ext XC2.out
              have cm0 := ZM.cell 0 _ rfl
              have cm1 := ZM.cell 1 _ rfl
              have cc0 := NC2.out.cell 0 _ rfl
              have cc1 := NC2.out.cell 1 _ rfl
              have cc2 := NC2.out.cell 2 _ rfl
              have hcall := hru.out WC hEC.out R k ar cx out st _ _ hS.out (hMe.out.read.ext XC2.out)
              obtain ⟨RF, hRF⟩ : ∃ r, runR A L C ar cx (inpAt D k) (decide (k = dl)) (3000 - st) = r := ⟨_, rfl⟩
              rw [hRF] at hcall
              rw [hxI.out, ← hen2.out] at hcall
              replace hcall := hidden hcall
              have hRFI : Hid (runR A L C ar cx (inpAt D k) (decide (k = D.length)) (3000 - st) = RF) := hidden (by rw [hdlI.out]; exact hRF)
              have ZMI := hidden ZM
              clear ZB hRF ZM
              go_wp2_with fail
              refine hcall.out.mono ?_
              clear hcall cb0 cb1 cb2 cm0 cm1 cc0 cc1 cc2
              intro y w7 hP
              cases RF with
              | error e =>
                obtain ⟨rfl, hX7⟩ := hP
                obtain ⟨hRe, he0⟩ := sp_err hCI.out hDI.out hS.out (by rw [hdlI.out]; omega) hRFI.out
                subst hRe
                obtain ⟨rfl, rfl⟩ := hAll.out
                have he0' : (eR != 0) = true := by simpa using he0
                replace he0 := hidden he0
                have XG := hX3.out.trans (XC2.out.trans (hX7.trans ((Ext.refl w7).alloc (.cells #[.slice none 0 0, .slice none 0 0, .slice none 0 0, .int .i64 0] 48))))
                have cp3 := (Bp.out.ext XG).cell 3 _ rfl
                replace XG := hidden (hE.out.trans XG)
                clear hX7
                go_wp2_with fail
                refine (haw.out _).mono ?_
                rintro x wz ⟨rfl, hX⟩
                go_wp2_with fail
                go_ret
                exact ⟨rfl, (XG.out).trans hX⟩
              | ok r =>
                obtain ⟨ar', cx', out', st'⟩ := r
                obtain ⟨q1, q2, q3, q4⟩ := sp_ok hCI.out hDI.out hS.out (by rw [hdlI.out]; omega) hRFI.out
                obtain ⟨va', vc', vo', s', rfl, hMO, hO', -, -, -, -, -, hX7⟩ := hP
                obtain ⟨f1, g1', f2, g2', rfl, rfl⟩ := hMO.read.shape _ _ rfl rfl
                obtain ⟨f3, g3', rfl, -⟩ := own_shape hO'
                obtain ⟨j1, hj1⟩ : ∃ j, ar'.length = j := ⟨_, rfl⟩
                obtain ⟨j2, hj2⟩ : ∃ j, cx'.length = j := ⟨_, rfl⟩
                obtain ⟨j3, hj3⟩ : ∃ j, out'.length = j := ⟨_, rfl⟩
                rw [hj1, hj2] at hMO
                rw [hj3] at hO' q4
                rw [hj1, hj2, hj3]
                obtain ⟨g, hg⟩ : ∃ g, w7.heap.size = g := ⟨_, rfl⟩
                have G8 := blk_at1 w7 [.slice f1 j1 g1', .slice f2 j2 g2', .slice f3 j3 g3', .int .i64 st'] 48 g hg
                have X8 := (Ext.refl w7).alloc (.cells #[.slice f1 j1 g1', .slice f2 j2 g2', .slice f3 j3 g3', .int .i64 st'] 48)
                obtain ⟨W8, hW8'⟩ : ∃ W, w7.alloc (.cells #[.slice f1 j1 g1', .slice f2 j2 g2', .slice f3 j3 g3', .int .i64 st'] 48) = W := ⟨_, rfl⟩
                rw [show (w7.alloc (.cells ([.slice f1 j1 g1', .slice f2 j2 g2', .slice f3 j3 g3', .int .i64 st'] : List Value).toArray 48)) = W8 from hW8'] at G8
                rw [hW8'] at X8
                have hm1 : m < WC.heap.size := (hB.out.ext XC2.out).lt
                have XC8 := XC2.out.trans (hX7.trans X8)
                have hgm : g ≠ m := by have h1 := hX7.size; omega
                have MO8 := hidden (hMO.chg (Chg.of_ext [] X8) (by simp))
                have hm1I := hidden hm1
                have hWO := hidden (show ∀ x, (Value.slice e3 out.length d3).ownBlock = some x → x < WC.heap.size from fun x hx => by have h1 := (own_lt hO.out hx).2; have h2 := XC2.out.size; omega)
                have O8 := hidden (own_ext hO' X8)
                have Oz8 := hidden (own_ext hO.out XC8)
                have Z8 := hidden (hB.out.ext XC8)
                have hE8 := hidden (hX3.out.trans XC8)
                replace G8 := hidden G8
                replace hW8' := hidden hW8'
                have hgI := hidden hg
                have hj1I := hidden hj1
                have hj2I := hidden hj2
                have hj3I := hidden hj3
                have hck8 := hck.out W8 (hE.out.trans hE8.out) ar' cx' _ _ MO8.out.read q1.mid.al
                rw [q2] at hck8
                replace hck8 := hidden hck8
                replace q1 := hidden q1
                have q3' : decide (st' < 0) = false := by simp; omega
                clear hMO hO' X8 hX7 XC8 hm1 q2 hj1 hj2 hj3
                go_upto_region 16 with fail
                rw [hW8'.out]
                clear hW8' hg
                have cb0 := (Bb.out.ext hE8.out).cell 0 _ rfl
                have cb1 := (Bb.out.ext hE8.out).cell 1 _ rfl
                have cb2 := (Bb.out.ext hE8.out).cell 2 _ rfl
                have cg0 := G8.out.cell 0 _ rfl
                have cg1 := G8.out.cell 1 _ rfl
                go_wp2_with fail
                refine hck8.out.mono ?_
                rintro x w9 ⟨rfl, hX9⟩
                clear hck8 cb0 cb1 cb2 cg0 cg1
                replace MO8 := hidden (MO8.out.chg (Chg.of_ext [] hX9) (by simp))
                replace O8 := hidden (own_ext O8.out hX9)
                replace Oz8 := hidden (own_ext Oz8.out hX9)
                replace Z8 := hidden (Z8.out.ext hX9)
                replace G8 := hidden (G8.out.ext hX9)
                replace hE8 := hidden (hE8.out.trans hX9)
                clear hX9
                have cg3 := G8.out.cell 3 _ rfl
                have hol := hS.out.ol
                have hst4 : IntKind.i64.wrap (st + st') = st + st' := by
                  have h1 := q1.out.mid.s1
                  have h2 := q1.out.mid.s0
                  exact IntWalk.i64_in _ (by omega)
                go_upto_region 20 with fail
                refine split20 _ _ _ _ _ _ _ _ _ _ _ _ _ _ _ _ _ _ _ _ _ _ _ _ _ _ _ _ _ _ _ _ _ _ _ _ _ _ _ _ _ _ _ _ _ _ _ _ _ _ _ _ _ _ _ _ _ _ _ _ _ _ _ _ _ _ _ _ _ _ _ _ _ _ _ _ _ _ _ _ _ _ _ _ _ _ _ _ _ _ _ _ _ _ _ _ _ _ _ _ _ _ _ _ _ _ _ _ _ _ _ _ _ _ _  (fun _ _ _ _ _ h => h) hgm Z8 G8 Oz8 (hidden (Rd.of_own O8.out)) (by simp [Value.oneCell']) (by omega) (by omega) hst4 ?_
                intro a9 c9 w10 hown9 hgrow9 hat9 Z9
                have c90 : Chg (Value.slice e3 out.length d3).ownBlock.toList w9.drew w10 := (Chg.refl _ _).grown hgrow9 (fun k hk => Or.inl (by simp [hk]))
                show _
                have Z10 := (Z9.set 0 (.slice f1 j1 g1')).set 1 (.slice f2 j2 g2')
                have C10 : Chg [m] w10 ((w10.setCell ⟨m, 0, none⟩ (.slice f1 j1 g1')).setCell ⟨m, 1, none⟩ (.slice f2 j2 g2')) := ((Chg.refl _ _).setCell (p := ⟨m, 0, none⟩) (Or.inl (by simp)) _).setCell (p := ⟨m, 1, none⟩) (Or.inl (by simp)) _
                have M10 := hidden ((MemX.of_own ((MO8.out.chg (Chg.of_ext [] (Ext.refl w9).drew) (by simp)).chg c90 (fun x hx => hWO.out x (by simpa using hx))) (m := m) (Or.inl hm1I.out)).chg C10)
                have O10 := hidden (own_low hown9 C10 (fun x hx => by rw [List.mem_singleton.1 hx]; omega))
                have E9 : Ext w3 w10 := ((Chg.of_ext [] (hE8.out.trans (Ext.refl w9).drew)).grown hgrow9 (fun k hk => Or.inr (by have h1 := (own_lt Oz8.out hk).1; have h2 := hmI.out; omega))).ext
                have E10 := hidden ((E9.setCell (p := ⟨m, 0, none⟩) (Nat.le_of_eq hmI.out) (.slice f1 j1 g1')).setCell (p := ⟨m, 1, none⟩) (Nat.le_of_eq hmI.out) (.slice f2 j2 g2'))
                clear Z9 C10 E9 hown9 hgrow9 hat9 c90 cg3
                obtain ⟨w11, hw11⟩ : ∃ W, ((w10.setCell ⟨m, 0, none⟩ (.slice f1 j1 g1')).setCell ⟨m, 1, none⟩ (.slice f2 j2 g2')) = W := ⟨_, rfl⟩
                rw [hw11] at Z10 M10 O10 E10 ⊢
                clear hw11
                have hll : out.length + j3 = (out ++ out').length := by rw [List.length_append, hj3I.out]
                rw [← hj1I.out, ← hj2I.out] at Z10 M10
                rw [hll, ← List.map_append] at O10
                replace Z10 := hidden Z10
                replace hll := hidden hll
                go_wp2_with fail
                go_roundw
                case rel => exact ⟨k + 1, ar', cx', out ++ out', st + st', f1, f2, a9, g1', g2', c9, by omega, by go_num, rfl, by rw [hll.out], q1, Z10, M10, O10, E10⟩
                case measure => simp [intOf]; omega
          · have hlt' : ¬ (k : Int) ≤ (dl : Int) := by omega
            obtain rfl : k = dl + 1 := by omega
            have hRe := sp_end (R := R) (by have := hS.out; rw [← hdlI.out] at this; exact this)
            subst hRe
            obtain ⟨rfl, rfl, hM1, hO1⟩ := hAll.out
            have cb3 := Bp.out.ext hX3.out
            have u0 := cb3.cell 0 _ rfl
            have u1 := cb3.cell 1 _ rfl
            have u2 := cb3.cell 2 _ rfl
            have u3 := cb3.cell 3 _ rfl
            have y0 := hB.out.cell 0 _ rfl
            have y1 := hB.out.cell 1 _ rfl
            have hsa := hidden (same22_any _ _ _ _ _ _ ar cx out (by first | exact sT | exact st) wr (hM1.ext hX3.out) hMe.out.read (Rd.ext hO1 hX3.out) (Rd.of_own hO.out) hS.out.mid.ob)
            replace hX3 := hidden (hE.out.trans hX3.out)
            clear hM1 hO1 cb3
            go_wp2_with fail
            refine hsa.out.mono ?_
            rintro x w7 ⟨rfl, hX7⟩
            replace hX3 := hidden (hX3.out.trans hX7)
            clear hsa hX7 u0 u1 u2 u3 y0 y1
            go_wp2_with fail
            refine (haw.out _).mono ?_
            rintro x wz ⟨rfl, hX⟩
            go_wp2_with fail
            go_ret
            exact ⟨rfl, (hX3.out).trans hX⟩
      · have hR := hform.out h0
        subst hR
        obtain ⟨rfl, rfl⟩ := hAll.out
        have h0' : (eR != 0) = true := by simpa using h0
        have hst := hidden (hst1.out h0 V2 hE.out)
        replace h0 := hidden h0
        clear hst0 hst1 hru hck hstart hform
        go_wp2_with fail
        refine (hst.out).mono ?_
        rintro x w3 ⟨rfl, hX⟩
        clear cb0 cb1 cb2
        replace hE := hidden (hE.out.trans (hX.trans ((Ext.refl w3).alloc (.cells #[.slice none 0 0, .slice none 0 0] 29))))
        clear hX hst
        go_wp2_with fail
        refine (haw.out _).mono ?_
        rintro x wz ⟨rfl, hX⟩
        go_wp2_with fail
        go_ret
        exact ⟨rfl, (hE.out).trans hX⟩
end Go.Proofs.YtgjjklajipekdaaGreat
