
import Derived.Test.YtgjjklajipekdaaGreatZt
import Derived.Test.YtgjjklajipekdaaGreatYy
namespace Go.Proofs.YtgjjklajipekdaaGreat
set_option maxHeartbeats 16000000
set_option maxRecDepth 100000
open Go.RowKit
set_option linter.unusedVariables false
set_option linter.unusedSimpArgs false
attribute [local go_sem ↓] Go.wp_at_zero Go.wp_at_succ
theorem rrun_go (va vc ma mc : Value) (E : Env) (ar : List (List Int)) (cx : List Int) (hA : OkA E.A) (hC : OkI E.C) (hL0 : -9223372036854775808 ≤ E.L) (hL1 : E.L ≤ 9223372036854775807)
  (hf0 : -9223372036854775808 ≤ E.fuel) (hf1 : E.fuel ≤ 9223372036854775807) (hal : ∀ a ∈ ar, a.length ≤ 100000) (w : World) (ra : Arr w va E.A) (rc : Cod w vc E.C) (hM : MemR w ma mc ar cx) (hform : formE E.A E.L E.C = 0) (hpair0 : (pairR E.C).2 = 0) (hfit0 : fitsF E.A ar cx = true) (hfr : 0 ≤ E.fuel ∧ E.fuel ≤ 281474976710656) (hE : OkE E) (hS : OkS E (startS E ar cx)) (hP0 : E.P = (pairR E.C).1) (N : Nat) (R : Out) (hR0 : runN E N (startS E ar cx) = some R) :
  Calls Tryz.prog 20 #[.agg #[va, .int .i64 E.L, vc], .agg #[ma, mc], .agg #[.int .u32 E.inp, .bool E.ended, .int .i64 E.fuel]] w (ExeP w E R) := by
 obtain ⟨L, hL⟩ := Int.eq_ofNat_of_zero_le hE.L0
 have hL16 : L ≤ 16 := by have := hE.L1; omega
 rw [hL] at hform
 have hpair := hidden hpair0
 have hfit := hidden hfit0
 have hlr8 : ar.length ≤ 100000 := by have := (fits_len hfit0).1; have := hE.A8; omega
 have hcx1 : cx.length ≤ 100000 := by have := (fits_len hfit0).2.1; omega
 have hcop0 := hidden (fun (W : World) (h : Ext w W) => rcopy_any W ma mc ar cx (hM.ext h) hlr8 hal hcx1)
 have hP := hidden hP0
 have hR := hidden hR0
 clear hpair0 hfit0 hP0 hR0
 obtain ⟨inp, hinp⟩ := ex E.inp
 obtain ⟨en, hen⟩ := ex E.ended
 obtain ⟨fu, hfu⟩ := ex E.fuel
 rw [hL, hinp, hen, hfu]
 rw [hfu] at hf0 hf1
 obtain ⟨b, hb⟩ := ex w.heap.size
 obtain ⟨W1, hW1, X1, P1⟩ := alx w #[va, .int .i64 L, vc] [va, .int .i64 L, vc] 25 b hb
 have s1 : W1.heap.size = b + 1 := by rw [← hW1, ← hb]; exact Array.size_push ..
 obtain ⟨W2, hW2, X2, P2⟩ := alx W1 #[ma, mc] [ma, mc] 29 (b + 1) s1
 have s2 : W2.heap.size = b + 2 := by rw [← hW2]; show (W1.heap.push _).size = _; rw [Array.size_push, s1]
 obtain ⟨W3, hW3, X3, P3⟩ := alx W2 #[.int .u32 inp, .bool en, .int .i64 fu] [.int .u32 inp, .bool en, .int .i64 fu] 44 (b + 2) s2
 have s3 : W3.heap.size = b + 3 := by rw [← hW3]; show (W2.heap.push _).size = _; rw [Array.size_push, s2]
 obtain ⟨W4, hW4, X4, P4⟩ := alx W3 #[.slice none 0 0, .slice none 0 0, .slice none 0 0, .int .i64 0] [.slice none 0 0, .slice none 0 0, .slice none 0 0, .int .i64 0] 48 (b + 3) s3
 have s4 : W4.heap.size = b + 4 := by rw [← hW4]; show (W3.heap.push _).size = _; rw [Array.size_push, s3]
 have Y3 := X3.trans X4
 have Y2 := X2.trans Y3
 have XW := hidden (X1.trans Y2)
 have hW : Hid (((((w.alloc (.cells #[va, .int .i64 L, vc] 25)).alloc (.cells #[ma, mc] 29)).alloc (.cells #[.int .u32 inp, .bool en, .int .i64 fu] 44)).alloc (.cells #[.slice none 0 0, .slice none 0 0, .slice none 0 0, .int .i64 0] 48)) = W4) := hidden (by rw [hW1, hW2, hW3, hW4])
 replace P1 := P1.ext Y2
 replace P2 := P2.ext Y3
 replace P3 := P3.ext X4
 obtain ⟨p0, p1, p2⟩ := P1.c3
 obtain ⟨m0, m1⟩ := P2.c2
 obtain ⟨c0, c1, c2⟩ := P3.c3
 clear X1 X2 X3 X4 Y2 Y3 hW1 hW2 hW3 hW4 s1 s2 s3 P1 P2 P3
 clear W1 W2 W3
 have hfo := rform_any va vc E.A E.L E.C hA hC hL0 hL1 W4 (Rd.ext ra XW.out) (Rd.ext rc XW.out)
 rw [hL] at hfo
 have hcop := hidden (fun (W : World) (h : Ext W4 W) => hcop0.out W (XW.out.trans h))
 clear hcop0
 have hpa := hidden (fun (W : World) (h : Ext W4 W) => rpartners_any vc E.C W (show Code18 W vc E.C from Rd.ext rc (XW.out.trans h)))
 have hfi := hidden (fun (W : World) (h : Ext W4 W) => rfits_any va ma mc E.A ar cx hal W (Rd.ext ra (XW.out.trans h)) (hM.ext (XW.out.trans h)))
 rw [hfu] at hfr
 obtain ⟨hfr1, hfr2⟩ := hfr
 replace hE := hidden hE
 replace hS := hidden hS
 rw [hform] at hfo
 replace hform := hidden hform
 have raI := hidden ra
 have rcI := hidden rc
 have hMI := hidden hM
 obtain ⟨aa, ca, rfl, -⟩ := Rd.shape ra
 obtain ⟨ac, cc, rfl, -⟩ := Rd.shape rc
 obtain ⟨aM, cM, hma, -⟩ := Rd.shape hM.choose_spec.1
 obtain ⟨aC, cC, hmc, -⟩ := Rd.shape hM.choose_spec.2.2
 subst hma
 subst hmc
 have hbw := hidden (show w.heap.size ≤ b + 3 by omega)
 have s4I := hidden s4
 replace hL := hidden hL
 replace hinp := hidden hinp
 replace hen := hidden hen
 replace hfu := hidden hfu
 replace hfo := hidden hfo
 clear ra rc hM hA hC hL0 hL1 hal
 generalize hla : E.A.length = la at *
 generalize hlc : E.C.length = lc at *
 generalize hlr : ar.length = lr at *
 generalize hlx : cx.length = lx at *
 replace hla := hidden hla
 replace hlc := hidden hlc
 replace hlr := hidden hlr
 replace hlx := hidden hlx
 have P4I := hidden P4
 clear P4 s4
 go_enter Tryz.func20, Tryz.ntmps20
 go_upto_region 1 with fail
 rw [hW.out, show b + 1 + 1 + 1 = b + 3 from rfl, show b + 1 + 1 = b + 2 from rfl]
 clear hb
 go_wp2_with fail
 refine hfo.out.mono ?_
 rintro x w1 ⟨rfl, hX1⟩
 have q0 := hX1.cell p0
 have q1 := hX1.cell p1
 have q2 := hX1.cell p2
 have n0 := hX1.cell m0
 have n1 := hX1.cell m1
 have k0 := hX1.cell c0
 have k1 := hX1.cell c1
 have k2 := hX1.cell c2
 have hX1I := hidden hX1
 clear p0 p1 p2 m0 m1 c0 c1 c2 hX1
 go_wp2_with fail
 refine (hpa.out w1 hX1I.out).mono ?_
 rintro x w2 ⟨vp, hx, hO, hX2⟩
 rw [hpair.out] at hx
 subst hx
 have hOI := hidden (own_mono hO hX1I.out.size)
 obtain ⟨ap, cp, rfl, -⟩ := own_shape (show w2.ownsRow _ _ _ vp _ _ from hO)
 have hlp0 : (pairR E.C).1.length = (pairR E.C).1.length := rfl
 have hX2I := hidden (hX1I.out.trans hX2)
 clear hO hlp0
 have u0 := hX2.cell q0
 have u1 := hX2.cell q1
 have u2 := hX2.cell q2
 have v0 := hX2.cell n0
 have v1 := hX2.cell n1
 have x0 := hX2.cell k0
 have x1 := hX2.cell k1
 have x2 := hX2.cell k2
 clear q0 q1 q2 n0 n1 k0 k1 k2
 clear hX2
 generalize hlp : (pairR E.C).1.length = lp at *
 replace hlp := hidden hlp
 go_wp2_with fail
 refine (hfi.out w2 hX2I.out).mono ?_
 rintro x w3 ⟨hx, hX3⟩
 rw [hfit.out] at hx
 subst hx
 have hX3I := hidden (hX2I.out.trans hX3)
 have hO3 := hidden (own_ext hOI.out hX3)
 have q0 := hX3.cell u0
 have q1 := hX3.cell u1
 have q2 := hX3.cell u2
 have n0 := hX3.cell v0
 have n1 := hX3.cell v1
 have k0 := hX3.cell x0
 have k1 := hX3.cell x1
 have k2 := hX3.cell x2
 clear u0 u1 u2 v0 v1 x0 x1 x2
 clear hX3
 have hfd0 : ¬ fu < 0 := by omega
 have hfd1 : decide (fu < 0) = false := decide_eq_false hfd0
 have hfd2 : ¬ 281474976710656 < fu := by omega
 have hfd3 : decide (281474976710656 < fu) = false := decide_eq_false hfd2
 obtain ⟨B, hBe⟩ := ex w3.heap.size
 replace hBe := hidden hBe
 have fin := hidden (show ∀ (al ak vla : Option Addr) (cl ck : Nat) (vs : List Value) (p : Nat) (w7 : World), Hid (RowsL w7 B p (memRows (.slice al lr cl) (.slice ak lx ck) vs ar cx)) → Hid (vs.length = lr) → Hid ((arow (.slice vla L L) (List.replicate L 0)).own w7 B) → Hid (∀ x, (Value.slice vla L L).ownBlock = some x → x ∉ blks (memRows (.slice al lr cl) (.slice ak lx ck) vs ar cx)) → Hid (Ext w3 w7) →
   MSt LR (w7.alloc (.cells #[.slice aa la ca, .int .i64 (L : Int), .slice ac lc cc, .slice ap lp cp, .int .u32 inp, .bool en, .int .i64 fu, .slice al lr cl, .slice ak lx ck, .slice none 0 0, .slice vla L L, .slice none 0 0, .slice none 0 0, .int .i64 0, .int .i64 0] 89)) B w7.heap.size ⟨.slice al lr cl, .slice ak lx ck, .slice none 0 0, .slice none 0 0, .slice vla L L, .slice none 0 0, vs⟩ ⟨.slice aa la ca, .slice ac lc cc, .slice ap lp cp⟩ E (startS E ar cx) from by
  intro al ak vla cl ck vs p w7 hR3 hvl hol hdis hX3
  have hXn := (Ext.refl w7).alloc (.cells #[.slice aa la ca, .int .i64 (L : Int), .slice ac lc cc, .slice ap lp cp, .int .u32 inp, .bool en, .int .i64 fu, .slice al lr cl, .slice ak lx ck, .slice none 0 0, .slice vla L L, .slice none 0 0, .slice none 0 0, .int .i64 0, .int .i64 0] 89)
  have hbk := Blk.new w7 [.slice aa la ca, .int .i64 (L : Int), .slice ac lc cc, .slice ap lp cp, .int .u32 inp, .bool en, .int .i64 fu, .slice al lr cl, .slice ak lx ck, .slice none 0 0, .slice vla L L, .slice none 0 0, .slice none 0 0, .int .i64 0, .int .i64 0] 89
  have hsz3 := hX3.out.size
  rw [hBe.out] at hsz3
  have hR4 := hR3.out.chg (Chg.of_ext [] hXn) (by simp)
  have hXX := XW.out.trans (hX3I.out.trans (hX3.out.trans hXn))
  have hBw : w.heap.size ≤ B := by rw [← hBe.out]; exact (XW.out.trans hX3I.out).size
  have hO4 := own_ext hO3.out (hX3.out.trans hXn)
  have hO4p : RdP (w7.alloc (.cells #[.slice aa la ca, .int .i64 (L : Int), .slice ac lc cc, .slice ap lp cp, .int .u32 inp, .bool en, .int .i64 fu, .slice al lr cl, .slice ak lx ck, .slice none 0 0, .slice vla L L, .slice none 0 0, .slice none 0 0, .int .i64 0, .int .i64 0] 89)) (.slice ap lp cp) E.P := by rw [hP.out]; unfold RdP; rw [hlp.out]; exact Rd.of_own hO4
  have henv : EnvM (w7.alloc (.cells #[.slice aa la ca, .int .i64 (L : Int), .slice ac lc cc, .slice ap lp cp, .int .u32 inp, .bool en, .int .i64 fu, .slice al lr cl, .slice ak lx ck, .slice none 0 0, .slice vla L L, .slice none 0 0, .slice none 0 0, .int .i64 0, .int .i64 0] 89)) B ⟨.slice aa la ca, .slice ac lc cc, .slice ap lp cp⟩ E :=
   ⟨Rd.ext raI.out hXX, Rd.ext rcI.out hXX, hO4p, fun k hn e => by have := Rd.blk_lt raI.out hn e; omega, fun k hn e => by have := Rd.blk_lt rcI.out hn e; omega, fun k hn e => by have := (own_lt hO3.out e).2; have := hBe.out; omega⟩
  refine mst_newR (X := ⟨.slice aa la ca, .slice ac lc cc, .slice ap lp cp⟩) (E := E) (q := w7.heap.size) hR4 (by rw [hvl.out, hlr.out]) (by rw [hL.out, Int.toNat_natCast]; exact own_ext hol.out hXn) hdis.out (by
   show Blk _ _ _ (mcR _ _ _ _)
   unfold mcR startS
   simp only
   rw [hL.out, hinp.out, hen.out, hfu.out]
   exact hbk) hsz3 (fun hm => by have := (hR3.out.lt (List.mem_cons_of_mem _ hm)).2; omega) (fun e => by have := (own_lt hol.out e).2; omega) henv)
 go_upto_region 11 with fail
 go_cut [11] from 44 (fun s11 wx => ∃ (q : Nat) (V : Vs), s11 = .pointer (some ⟨q, 0, none⟩) ∧ Hid (MSt LR wx B q V ⟨.slice aa la ca, .slice ac lc cc, .slice ap lp cp⟩ E (startS E ar cx)) ∧ Hid (Ext w3 wx))
 case first =>
  refine wp_region_D (S := fun w' => w'.cell? ⟨b, 0, none⟩ = some (.slice aa la ca) ∧ w'.cell? ⟨b, 1, none⟩ = some (.int .i64 (L : Int)) ∧ w'.cell? ⟨b, 2, none⟩ = some (.slice ac lc cc) ∧ w'.cell? ⟨b + 1, 0, none⟩ = some (.slice aM lr cM) ∧ w'.cell? ⟨b + 1, 1, none⟩ = some (.slice aC lx cC) ∧ w'.cell? ⟨b + 2, 0, none⟩ = some (.int .u32 inp) ∧ w'.cell? ⟨b + 2, 1, none⟩ = some (.bool en) ∧ w'.cell? ⟨b + 2, 2, none⟩ = some (.int .i64 fu)) (D := [9, 10]) (by kernel_rfl) ⟨q0, q1, q2, n0, n1, k0, k1, k2⟩ (fun HS => ?_)
  refine tk 0 [8, 9, 10] (.agg #[.slice aa la ca, .int .i64 (L : Int), .slice ac lc cc]) HS ?_; try simp only [sx]
  refine tk 1 [8, 9, 10] (.slice ap lp cp) HS ?_; try simp only [sx]
  refine tk 2 [8, 9, 10] (.agg #[.int .u32 inp, .bool en, .int .i64 fu]) HS ?_; try simp only [sx]
  refine tk 3 [4, 8, 9, 10] (.agg #[.slice aM lr cM, .slice aC lx cC]) HS ?_; try simp only [sx]
  refine tk 5 [6, 7, 8, 9, 10] (.pointer (some ⟨b, 1, none⟩)) HS ?_; try simp only [sx]
  refine tk 6 [7, 8, 9, 10] (.int .i64 (L : Int)) HS ?_; try simp only [sx]
  refine wpAnyD_all (rs := [4, 7]) (by kernel_rfl) (by simp) ?_
  intro i hi
  rcases List.mem_cons.1 hi with rfl | hi
  ·refine wpOp_callV 4 41 #[.agg #[.slice aM lr cM, .slice aC lx cC]] rfl rfl (by rfl) (by go_simp) (hcop.out w3.drew (hX3I.out.trans (Ext.refl w3).drew)) ?_
   rintro x w6 ⟨va', vc', vs, p, rfl, hvl, hR2, hX2⟩
   have hO1 : w6.ownsRow w3.drew.heap.size 27 1 va' ar.length vs := hR2.own _ (List.mem_of_getElem? (i := 0) rfl)
   have hO2 : w6.ownsRow w3.drew.heap.size 42 1 vc' cx.length (cx.map (Value.int .u32)) := hR2.own (arow vc' cx) (List.mem_of_getElem? (i := 1) rfl)
   rw [hlr.out] at hO1
   rw [hlx.out] at hO2
   obtain ⟨al, cl, rfl, -⟩ := own_shape hO1
   obtain ⟨ak, ck, rfl, -⟩ := own_shape hO2
   clear hO1 hO2
   have X2 := (Ext.refl w3).drew.trans hX2
   replace HS := And.intro (hX2.cell (HS.1)) (And.intro (hX2.cell (HS.2.1)) (And.intro (hX2.cell (HS.2.2.1)) (And.intro (hX2.cell (HS.2.2.2.1)) (And.intro (hX2.cell (HS.2.2.2.2.1)) (And.intro (hX2.cell (HS.2.2.2.2.2.1)) (And.intro (hX2.cell (HS.2.2.2.2.2.2.1)) (hX2.cell (HS.2.2.2.2.2.2.2))))))))
   refine ⟨_, rfl, fun _ => HS, ?_⟩
   try simp only [Act.put, sx]
   have hmk := make32 w6 L (by omega)
   have hX3 := (Ext.refl w6).alloc (.cells (madeCells #[.int .u32 0] L) 42)
   replace HS := And.intro (hX3.cell (HS.1)) (And.intro (hX3.cell (HS.2.1)) (And.intro (hX3.cell (HS.2.2.1)) (And.intro (hX3.cell (HS.2.2.2.1)) (And.intro (hX3.cell (HS.2.2.2.2.1)) (And.intro (hX3.cell (HS.2.2.2.2.2.1)) (And.intro (hX3.cell (HS.2.2.2.2.2.2.1)) (hX3.cell (HS.2.2.2.2.2.2.2))))))))
   refine valueD 7 (.slice (some ⟨w6.heap.size, 0, none⟩) L L) rfl rfl (by kernel_rfl) (by rfl) (w' := w6.alloc (.cells (madeCells #[.int .u32 0] L) 42)) (by go_simp) (fun _ => HS) ?_; try simp only [sx]
   have hol := hidden (show (arow (.slice (some ⟨w6.heap.size, 0, none⟩) L L) (List.replicate L 0)).own (w6.alloc (.cells (madeCells #[.int .u32 0] L) 42)) B by
    have := made_own w3 w6 X2 L (by omega)
    rw [hBe.out] at this
    exact this)
   have hdis := hidden (show ∀ x, (Value.slice (some ⟨w6.heap.size, 0, none⟩) L L).ownBlock = some x → x ∉ blks (memRows (.slice al lr cl) (.slice ak lx ck) vs ar cx) by
    intro x hx hm
    have := (hR2.lt (List.mem_cons_of_mem _ hm)).2
    simp only [Value.ownBlock, Option.some.injEq] at hx
    omega)
   have hR7 := hidden ((hR2.base (show B ≤ w3.drew.heap.size by rw [← hBe.out]; exact Nat.le_refl _)).chg (Chg.of_ext [] hX3) (by simp))
   have hX7 := hidden (X2.trans hX3)
   have hvl' := hidden (show vs.length = lr by rw [hvl, hlr.out])
   clear hmk hvl hR2 hX2 X2 hX3
   generalize (some ⟨w6.heap.size, 0, none⟩ : Option Addr) = vla at *
   generalize (w6.alloc (.cells (madeCells #[.int .u32 0] L) 42)) = w7 at *
   refine valueD 8 (.agg #[.slice aa la ca, .int .i64 (L : Int), .slice ac lc cc, .slice ap lp cp, .int .u32 inp, .bool en, .int .i64 fu, .slice al lr cl, .slice ak lx ck, .slice none 0 0, .slice vla L L, .slice none 0 0, .slice none 0 0, .int .i64 0, .int .i64 0]) rfl rfl (by kernel_rfl) (by rfl) (w' := w7) (by go_simp) (fun _ => HS) ?_; try simp only [sx]
   refine valueD 9 (.pointer (some ⟨w7.heap.size, 0, none⟩)) rfl rfl (by kernel_rfl) (by rfl) (w' := w7.alloc (.cells #[.slice aa la ca, .int .i64 (L : Int), .slice ac lc cc, .slice ap lp cp, .int .u32 inp, .bool en, .int .i64 fu, .slice al lr cl, .slice ak lx ck, .slice none 0 0, .slice vla L L, .slice none 0 0, .slice none 0 0, .int .i64 0, .int .i64 0] 89)) (by go_simp) (fun h => absurd (by decide) h) ?_; try simp only [sx]
   refine valueD 10 (.pointer (some ⟨w7.heap.size, 0, none⟩)) rfl rfl (by kernel_rfl) (by rfl) (w' := w7.alloc (.cells #[.slice aa la ca, .int .i64 (L : Int), .slice ac lc cc, .slice ap lp cp, .int .u32 inp, .bool en, .int .i64 fu, .slice al lr cl, .slice ak lx ck, .slice none 0 0, .slice vla L L, .slice none 0 0, .slice none 0 0, .int .i64 0, .int .i64 0] 89)) (by go_simp) (fun h => absurd (by decide) h) ?_
   refine wpAnyD_done (by kernel_rfl) ?_ _
   show _
   have hms := hidden (fin.out al ak vla cl ck vs p w7 hR7 hvl' hol hdis hX7)
   have hXn := hidden (hX7.out.alloc (.cells #[.slice aa la ca, .int .i64 (L : Int), .slice ac lc cc, .slice ap lp cp, .int .u32 inp, .bool en, .int .i64 fu, .slice al lr cl, .slice ak lx ck, .slice none 0 0, .slice vla L L, .slice none 0 0, .slice none 0 0, .int .i64 0, .int .i64 0] 89))
   generalize w7.alloc (.cells #[.slice aa la ca, .int .i64 (L : Int), .slice ac lc cc, .slice ap lp cp, .int .u32 inp, .bool en, .int .i64 fu, .slice al lr cl, .slice ak lx ck, .slice none 0 0, .slice vla L L, .slice none 0 0, .slice none 0 0, .int .i64 0, .int .i64 0] 89) = w8 at *
   generalize w7.heap.size = q at *
   clear fin HS hR7 hol hdis hX7
   go_wp2_with fail
   go_meet
   exact ⟨_, _, rfl, hms, hXn⟩
  ·obtain rfl : i = 7 := by simpa using hi
   have hmk := make32 w3.drew L (by omega)
   have hX3 := (Ext.refl w3).drew.alloc (.cells (madeCells #[.int .u32 0] L) 42)
   have hXC := (Ext.refl w3.drew).alloc (.cells (madeCells #[.int .u32 0] L) 42)
   replace HS := And.intro (hXC.cell (HS.1)) (And.intro (hXC.cell (HS.2.1)) (And.intro (hXC.cell (HS.2.2.1)) (And.intro (hXC.cell (HS.2.2.2.1)) (And.intro (hXC.cell (HS.2.2.2.2.1)) (And.intro (hXC.cell (HS.2.2.2.2.2.1)) (And.intro (hXC.cell (HS.2.2.2.2.2.2.1)) (hXC.cell (HS.2.2.2.2.2.2.2))))))))
   clear hXC
   refine wpOp_valueV 7 (.slice (some ⟨w3.heap.size, 0, none⟩) L L) rfl rfl (by rfl) (w' := w3.drew.alloc (.cells (madeCells #[.int .u32 0] L) 42)) (by go_simp) ⟨fun _ => HS, ?_⟩; try simp only [sx]
   have hol0 : (arow (.slice (some ⟨w3.heap.size, 0, none⟩) L L) (List.replicate L 0)).own (w3.drew.alloc (.cells (madeCells #[.int .u32 0] L) 42)) B := by
    have := made_own w3 w3.drew (Ext.refl w3).drew L (by omega)
    rw [hBe.out] at this
    rw [show w3.heap.size = w3.drew.heap.size from rfl]
    exact this
   have hszA : (w3.drew.alloc (.cells (madeCells #[.int .u32 0] L) 42)).heap.size = B + 1 := by
    show (w3.drew.heap.push _).size = _
    rw [Array.size_push]
    show w3.heap.size + 1 = _
    rw [hBe.out]
   clear hmk
   rw [hBe.out] at hol0
   rw [hBe.out]
   generalize (w3.drew.alloc (.cells (madeCells #[.int .u32 0] L) 42)) = w6 at *
   refine callVD 4 41 #[.agg #[.slice aM lr cM, .slice aC lx cC]] rfl rfl (by kernel_rfl) (by rfl) (by go_simp) (hcop.out w6 (hX3I.out.trans hX3)) ?_
   rintro x w7 ⟨va', vc', vs, p, rfl, hvl, hR2, hX2⟩
   have hO1 : w7.ownsRow w6.heap.size 27 1 va' ar.length vs := hR2.own _ (List.mem_of_getElem? (i := 0) rfl)
   have hO2 : w7.ownsRow w6.heap.size 42 1 vc' cx.length (cx.map (Value.int .u32)) := hR2.own (arow vc' cx) (List.mem_of_getElem? (i := 1) rfl)
   rw [hlr.out] at hO1
   rw [hlx.out] at hO2
   obtain ⟨al, cl, rfl, -⟩ := own_shape hO1
   obtain ⟨ak, ck, rfl, -⟩ := own_shape hO2
   clear hO1 hO2
   replace HS := And.intro (hX2.cell (HS.1)) (And.intro (hX2.cell (HS.2.1)) (And.intro (hX2.cell (HS.2.2.1)) (And.intro (hX2.cell (HS.2.2.2.1)) (And.intro (hX2.cell (HS.2.2.2.2.1)) (And.intro (hX2.cell (HS.2.2.2.2.2.1)) (And.intro (hX2.cell (HS.2.2.2.2.2.2.1)) (hX2.cell (HS.2.2.2.2.2.2.2))))))))
   refine Or.inl ⟨_, rfl, fun _ => HS, ?_⟩
   try simp only [Act.put, sx]
   have hol := hidden (own_ext hol0 hX2)
   have hdis := hidden (show ∀ x, (Value.slice (some ⟨B, 0, none⟩) L L).ownBlock = some x → x ∉ blks (memRows (.slice al lr cl) (.slice ak lx ck) vs ar cx) by
    intro x hx hm
    have := (hR2.lt (List.mem_cons_of_mem _ hm)).1
    simp only [Value.ownBlock, Option.some.injEq] at hx
    omega)
   have hR7 := hidden (hR2.base (show B ≤ w6.heap.size by omega))
   have hX7 := hidden (hX3.trans hX2)
   have hvl' := hidden (show vs.length = lr by rw [hvl, hlr.out])
   clear hvl hR2 hX2 hX3 hol0 hszA
   generalize (some ⟨B, 0, none⟩ : Option Addr) = vla at *
   refine valueD 8 (.agg #[.slice aa la ca, .int .i64 (L : Int), .slice ac lc cc, .slice ap lp cp, .int .u32 inp, .bool en, .int .i64 fu, .slice al lr cl, .slice ak lx ck, .slice none 0 0, .slice vla L L, .slice none 0 0, .slice none 0 0, .int .i64 0, .int .i64 0]) rfl rfl (by kernel_rfl) (by rfl) (w' := w7) (by go_simp) (fun _ => HS) ?_; try simp only [sx]
   refine valueD 9 (.pointer (some ⟨w7.heap.size, 0, none⟩)) rfl rfl (by kernel_rfl) (by rfl) (w' := w7.alloc (.cells #[.slice aa la ca, .int .i64 (L : Int), .slice ac lc cc, .slice ap lp cp, .int .u32 inp, .bool en, .int .i64 fu, .slice al lr cl, .slice ak lx ck, .slice none 0 0, .slice vla L L, .slice none 0 0, .slice none 0 0, .int .i64 0, .int .i64 0] 89)) (by go_simp) (fun h => absurd (by decide) h) ?_; try simp only [sx]
   refine valueD 10 (.pointer (some ⟨w7.heap.size, 0, none⟩)) rfl rfl (by kernel_rfl) (by rfl) (w' := w7.alloc (.cells #[.slice aa la ca, .int .i64 (L : Int), .slice ac lc cc, .slice ap lp cp, .int .u32 inp, .bool en, .int .i64 fu, .slice al lr cl, .slice ak lx ck, .slice none 0 0, .slice vla L L, .slice none 0 0, .slice none 0 0, .int .i64 0, .int .i64 0] 89)) (by go_simp) (fun h => absurd (by decide) h) ?_
   refine wpAnyD_done (by kernel_rfl) ?_ _
   show _
   have hms := hidden (fin.out al ak vla cl ck vs p w7 hR7 hvl' hol hdis hX7)
   have hXn := hidden (hX7.out.alloc (.cells #[.slice aa la ca, .int .i64 (L : Int), .slice ac lc cc, .slice ap lp cp, .int .u32 inp, .bool en, .int .i64 fu, .slice al lr cl, .slice ak lx ck, .slice none 0 0, .slice vla L L, .slice none 0 0, .slice none 0 0, .int .i64 0, .int .i64 0] 89))
   generalize w7.alloc (.cells #[.slice aa la ca, .int .i64 (L : Int), .slice ac lc cc, .slice ap lp cp, .int .u32 inp, .bool en, .int .i64 fu, .slice al lr cl, .slice ak lx ck, .slice none 0 0, .slice vla L L, .slice none 0 0, .slice none 0 0, .int .i64 0, .int .i64 0] 89) = w8 at *
   generalize w7.heap.size = q at *
   clear fin HS hR7 hol hdis hX7
   go_wp2_with fail
   go_meet
   exact ⟨_, _, rfl, hms, hXn⟩
 case rest =>
  obtain ⟨q, V0, rfl, hM0, hX0⟩ := hcut
  clear fin hcop n0 n1 k0 k1 k2 q0 q1
  have c14 := hM0.out.cell 14 _ rfl
  change wc.cell? ⟨q, 14, none⟩ = some (.int .i64 0) at c14
  have f14 := hM0.out.blk.frozen 14
  obtain ⟨p1, p2⟩ := hM0.out.cellq 14 (.int .i64 0) (s' := startS E ar cx) rfl rfl rfl
  have hX1 := hidden (hM0.out.above hX0.out (Nat.le_of_eq hBe.out) p2)
  have hM1 := hidden p1
  clear p1 p2
  go_wp2_with fail
  obtain ⟨Wl, hWl⟩ := ex (wc.setCell ⟨q, 14, none⟩ (.int .i64 0))
  rw [hWl] at hM1 hX1 ⊢
  replace hWl := hidden hWl
  clear c14 f14 hM0 hX0
  have hC0 := hE.out.C0
  rw [hlc.out] at hC0
  go_loopg [] N (fun k wr => ∃ (s : MS) (V' : Vs), 0 ≤ s.pc ∧ s.pc ≤ lc ∧ Hid (runN E k s = some R) ∧ Hid (OkS E s) ∧ Hid (MSt LR wr B q V' ⟨.slice aa la ca, .slice ac lc cc, .slice ap lp cp⟩ E s) ∧ Hid (Ext w3 wr))
  case atStart => exact ⟨startS E ar cx, V0, Int.le_refl _, by show (0 : Int) ≤ _; omega, hR, hS, hM1, hX1⟩
  case round =>
   obtain ⟨s, V', hp0, hp1, hR, hs, hM, hXr⟩ := hrel
   obtain ⟨k, rfl⟩ : ∃ k, gk = k + 1 := by
    cases gk with
    | zero => have := hR.out; cases this
    | succ k => exact ⟨k, rfl⟩
   have c14 := hM.out.cell 14 _ rfl
   change wr.cell? ⟨q, 14, none⟩ = some (.int .i64 s.pc) at c14
   have d2 := hXr.out.cell q2
   obtain ⟨p, hpe⟩ := Int.eq_ofNat_of_zero_le hp0
   rw [hpe] at c14 hp1
   have hp0I := hidden hp0
   clear hp0 hM1 hX1
   by_cases hlt : p < lc
   ·have hltI : (p : Int) < (lc : Int) := by omega
    have hpl := hidden (show s.pc < E.C.length by rw [hpe, hlc.out]; omega)
    have hex := hidden (exec_run hE.out hs.out hp0I.out hpl.out hR.out)
    replace hpe := hidden hpe
    clear hR hp1
    go_upto_region 13 with fail
    refine wp_region_D (S := fun w' => w'.cell? ⟨q, 14, none⟩ = some (.int .i64 (p : Int)) ∧ w'.cell? ⟨b, 2, none⟩ = some (.slice ac lc cc)) (D := []) (by kernel_rfl) ⟨c14, d2⟩ (fun HS => ?_)
    refine tk 0 [] (.pointer (some ⟨q, 0, none⟩)) HS ?_; try simp only [sx]
    refine tk 1 [] (.pointer (some ⟨q, 0, none⟩)) HS ?_; try simp only [sx]
    refine tk 2 [] (.pointer (some ⟨q, 14, none⟩)) HS ?_; try simp only [sx]
    refine tk 3 [] (.int .i64 (p : Int)) HS ?_; try simp only [sx]
    refine tk 4 [] (.pointer (some ⟨b, 2, none⟩)) HS ?_; try simp only [sx]
    refine tk 5 [] (.slice ac lc cc) HS ?_; try simp only [sx]
    refine tk 6 [] (.int .i64 (lc : Int)) HS ?_; try simp only [sx]
    refine tk 7 [] (.bool true) HS ?_; try simp only [sx]
    refine wpAnyD_done (by kernel_rfl) ?_ _
    show _
    go_wp2_with fail
    refine (rexecute_any wr.drew B q V' ⟨.slice aa la ca, .slice ac lc cc, .slice ap lp cp⟩ E s (hM.out.ext (Ext.refl wr).drew) (by rw [← hBe.out]; exact (hXr.out.drew).size) hs.out hE.out hp0I.out hpl.out (by intro e; have := hex.out; rw [e] at this; exact this)).mono ?_
    intro x w5 hm5
    cases hx : execR E s with
    | stuck => rw [hx] at hm5; exact hm5.elim
    | err e =>
     have hex2 := hex.out
     rw [hx] at hm5 hex2
     obtain ⟨rfl, hC5⟩ := hm5
     have he := ne0_execR hx
     have he0 : (e == 0) = false := by simpa using he
     simp only at hex2
     subst hex2
     have hX5 := hidden (hX3I.out.trans ((hM.out.ext (Ext.refl wr).drew).above hXr.out.drew (Nat.le_of_eq hBe.out) hC5))
     replace hx := hidden hx
     clear hex hC5 he
     have B4 := P4I.out.ext hX5.out
     obtain ⟨f0, f1, f2, f3⟩ := B4.fz4
     obtain ⟨g0, g1, g2, g3⟩ := B4.c4
     have B4I := hidden B4
     have hX4I := hidden (XW.out.trans hX5.out)
     clear B4
     go_wp2_with fail
     have B5 := set4_blk B4I.out (.slice none 0 0) (.slice none 0 0) (.slice none 0 0) (.int .i64 0)
     obtain ⟨z0, z1, z2, z3⟩ := B5.c4
     refine bodyPost_ret (v := .tuple #[.agg #[.slice none 0 0, .slice none 0 0, .slice none 0 0, .int .i64 0], .int .i64 e]) (by simp [results, Tryz.results20, go_sem, z0, z1, z2, z3]) rfl ?_
     exact ⟨rfl, set4_ext hX4I.out hbw.out _ _ _ _⟩
    | go s' =>
     have hex2 := hex.out
     rw [hx] at hm5 hex2
     obtain ⟨rfl, V2, hM5, hC5, hT5⟩ := hm5
     obtain ⟨m, hmk, hR', hs', h0', h1'⟩ := hex2
     rw [hlc.out] at h1'
     have c5 := hM5.cell 14 _ rfl
     change w5.cell? ⟨q, 14, none⟩ = some (.int .i64 s'.pc) at c5
     have f5 := hM5.blk.frozen 14
     have hX5 := (hM.out.ext (Ext.refl wr).drew).above hXr.out.drew (Nat.le_of_eq hBe.out) hC5
     obtain ⟨n1, n2⟩ := hM5.cellq 14 (.int .i64 (s'.pc + 1)) (s' := { s' with pc := s'.pc + 1 }) rfl rfl rfl
     have hX6 := hidden (hM5.above hX5 (Nat.le_of_eq hBe.out) n2)
     have n1I := hidden n1
     obtain ⟨pc', hpc'⟩ := ex s'.pc
     rw [hpc'] at c5 h0' h1'
     have hpw : IntKind.i64.wrap (pc' + 1) = pc' + 1 := IntWalk.i64_in _ (by omega)
     have n1J : Hid (MSt LR (w5.setCell ⟨q, 14, none⟩ (.int .i64 (pc' + 1))) B q V2 ⟨.slice aa la ca, .slice ac lc cc, .slice ap lp cp⟩ E { s' with pc := s'.pc + 1 }) := by show MSt _ _ _ _ _ _ _ _; rw [← hpc']; exact n1I.out
     have hX6J : Hid (Ext w3 (w5.setCell ⟨q, 14, none⟩ (.int .i64 (pc' + 1)))) := by show Ext _ _; rw [← hpc']; exact hX6.out
     replace hx := hidden hx
     replace hR' := hidden hR'
     replace hs' := hidden hs'
     replace hpc' := hidden hpc'
     clear hex hM5 hC5 hT5 n1 n2 hX5 n1I hX6
     go_wp2_with fail
     go_roundg m
     case measure => omega
     case rel => exact ⟨_, V2, by show 0 ≤ s'.pc + 1; rw [hpc'.out]; exact h0', by show s'.pc + 1 ≤ _; rw [hpc'.out]; exact h1', hR', hs', n1J, hX6J⟩
   ·have hltI : ¬ (p : Int) < (lc : Int) := by omega
    have hpc : (E.C.length : Int) ≤ s.pc := by rw [hpe, hlc.out]; omega
    have hRend := hR.out
    unfold runN at hRend
    rw [if_pos hpc] at hRend
    replace hpe := hidden hpe
    clear hR hp1 hpc
    go_upto_region 13 with fail
    refine wp_region_D (S := fun w' => w'.cell? ⟨q, 14, none⟩ = some (.int .i64 (p : Int)) ∧ w'.cell? ⟨b, 2, none⟩ = some (.slice ac lc cc)) (D := []) (by kernel_rfl) ⟨c14, d2⟩ (fun HS => ?_)
    refine tk 0 [] (.pointer (some ⟨q, 0, none⟩)) HS ?_; try simp only [sx]
    refine tk 1 [] (.pointer (some ⟨q, 0, none⟩)) HS ?_; try simp only [sx]
    refine tk 2 [] (.pointer (some ⟨q, 14, none⟩)) HS ?_; try simp only [sx]
    refine tk 3 [] (.int .i64 (p : Int)) HS ?_; try simp only [sx]
    refine tk 4 [] (.pointer (some ⟨b, 2, none⟩)) HS ?_; try simp only [sx]
    refine tk 5 [] (.slice ac lc cc) HS ?_; try simp only [sx]
    refine tk 6 [] (.int .i64 (lc : Int)) HS ?_; try simp only [sx]
    refine tk 7 [] (.bool false) HS ?_; try simp only [sx]
    refine wpAnyD_done (by kernel_rfl) ?_ _
    show _
    have hMU := hM.out.ext (Ext.refl wr).drew
    have hXU := hXr.out.drew
    have hst := hMU.row 2 _ rfl
    unfold Row.own at hst
    simp only at hst
    have e9 := hMU.cell 9 _ rfl
    change wr.drew.cell? ⟨q, 9, none⟩ = some V'.st at e9
    obtain ⟨as', cs', hVs, -⟩ := own_shape hst
    rw [hVs] at e9
    obtain ⟨ns, hnse⟩ := ex s.st.length
    rw [hnse] at e9
    replace hVs := hidden hVs
    clear hst c14 d2 HS
    obtain ⟨U, hU⟩ := ex wr.drew
    rw [hU] at hMU hXU e9 ⊢
    replace hU := hidden hU
    by_cases hs0 : ns = 0
    ·subst hs0
     rw [if_pos (List.eq_nil_of_length_eq_zero hnse)] at hRend
     have hRe := hidden (Option.some.inj hRend)
     replace hnse := hidden hnse
     clear hRend
     have e7 := hMU.cell 7 _ rfl
     have e8 := hMU.cell 8 _ rfl
     have e12 := hMU.cell 12 _ rfl
     have e13 := hMU.cell 13 _ rfl
     have r7 := hMU.row 0 _ rfl
     have r8 := hMU.row 1 _ rfl
     have r12 := hMU.row 5 _ rfl
     unfold Row.own at r7 r8 r12
     simp only at r7 r8 r12
     unfold arow at r8
     simp only at r8
     obtain ⟨a1, c1', hv1, -⟩ := own_shape r7
     obtain ⟨a2, c2', hv2, -⟩ := own_shape r8
     obtain ⟨a3, c3', hv3, -⟩ := own_shape r12
     change U.cell? ⟨q, 7, none⟩ = some V'.arr at e7
     change U.cell? ⟨q, 8, none⟩ = some V'.cx at e8
     change U.cell? ⟨q, 12, none⟩ = some V'.out at e12
     change U.cell? ⟨q, 13, none⟩ = some (.int .i64 s.steps) at e13
     rw [hv1] at e7
     rw [hv2] at e8
     rw [hv3] at e12
     obtain ⟨k1, hk1⟩ := ex s.ar.length
     obtain ⟨k2, hk2⟩ := ex s.cx.length
     obtain ⟨k3, hk3⟩ := ex s.out.length
     obtain ⟨k4, hk4⟩ := ex s.steps
     rw [hk1] at e7 hv1
     rw [hk2] at e8 hv2
     rw [hk3] at e12 hv3
     rw [hk4] at e13
     have B4 := P4I.out.ext (hX3I.out.trans hXU)
     obtain ⟨f0, f1, f2, f3⟩ := B4.fz4
     obtain ⟨g0, g1, g2, g3⟩ := B4.c4
     have B4I := hidden B4
     have hMUI := hidden hMU
     have hXUI := hidden hXU
     have hk4I := hidden hk4
     have B4J := hidden B4.drew
     replace hv1 := hidden hv1
     replace hv2 := hidden hv2
     replace hv3 := hidden hv3
     clear B4 hMU hXU r7 r8 r12 hk1 hk2 hk3 hk4
     go_upto_region 20 with fail
     clear e9
     refine wp_region_D (S := fun w' => w'.cell? ⟨q, 7, none⟩ = some (.slice a1 k1 c1') ∧ w'.cell? ⟨q, 8, none⟩ = some (.slice a2 k2 c2') ∧ w'.cell? ⟨q, 12, none⟩ = some (.slice a3 k3 c3') ∧ w'.cell? ⟨q, 13, none⟩ = some (.int .i64 k4)) (D := [13, 14]) (by kernel_rfl) ⟨e7, e8, e12, e13⟩ (fun HS => ?_)
     refine tk 0 [1, 2, 3, 12, 13, 14] (.pointer (some ⟨q, 0, none⟩)) HS ?_; try simp only [sx]
     refine tk 1 [2, 3, 12, 13, 14] (.pointer (some ⟨q, 0, none⟩)) HS ?_; try simp only [sx]
     refine tk 2 [3, 12, 13, 14] (.pointer (some ⟨q, 7, none⟩)) HS ?_; try simp only [sx]
     refine tk 3 [12, 13, 14] (.agg #[.slice a1 k1 c1', .slice a2 k2 c2']) HS ?_; try simp only [sx]
     refine tk 4 [5, 6, 7, 12, 13, 14] (.pointer (some ⟨q, 0, none⟩)) HS ?_; try simp only [sx]
     refine tk 5 [6, 7, 12, 13, 14] (.pointer (some ⟨q, 0, none⟩)) HS ?_; try simp only [sx]
     refine tk 6 [7, 12, 13, 14] (.pointer (some ⟨q, 12, none⟩)) HS ?_; try simp only [sx]
     refine tk 7 [12, 13, 14] (.slice a3 k3 c3') HS ?_; try simp only [sx]
     refine tk 8 [9, 10, 11, 12, 13, 14] (.pointer (some ⟨q, 0, none⟩)) HS ?_; try simp only [sx]
     refine tk 9 [10, 11, 12, 13, 14] (.pointer (some ⟨q, 0, none⟩)) HS ?_; try simp only [sx]
     refine tk 10 [11, 12, 13, 14] (.pointer (some ⟨q, 13, none⟩)) HS ?_; try simp only [sx]
     refine tk 11 [12, 13, 14] (.int .i64 k4) HS ?_; try simp only [sx]
     refine tk 12 [13, 14] (.agg #[.slice a1 k1 c1', .slice a2 k2 c2', .slice a3 k3 c3', .int .i64 k4]) HS ?_; try simp only [sx]
     refine storeD 13 rfl rfl (by kernel_rfl) (by rfl) (w' := ((((U.drew.setCell ⟨b + 3, 0, none⟩ (.slice a1 k1 c1')).setCell ⟨b + 3, 1, none⟩ (.slice a2 k2 c2')).setCell ⟨b + 3, 2, none⟩ (.slice a3 k3 c3')).setCell ⟨b + 3, 3, none⟩ (.int .i64 k4))) (by go_simp) (fun h => absurd (by decide) h) ?_
     refine valueD 14 (.int .i64 0) rfl rfl (by kernel_rfl) (by rfl) (w' := ((((U.drew.setCell ⟨b + 3, 0, none⟩ (.slice a1 k1 c1')).setCell ⟨b + 3, 1, none⟩ (.slice a2 k2 c2')).setCell ⟨b + 3, 2, none⟩ (.slice a3 k3 c3')).setCell ⟨b + 3, 3, none⟩ (.int .i64 k4))) (by go_simp) (fun h => absurd (by decide) h) ?_; try simp only [sx]
     refine wpAnyD_done (by kernel_rfl) ?_ _
     show _
     have B5 : Blk ((((U.drew.setCell ⟨b + 3, 0, none⟩ (.slice a1 k1 c1')).setCell ⟨b + 3, 1, none⟩ (.slice a2 k2 c2')).setCell ⟨b + 3, 2, none⟩ (.slice a3 k3 c3')).setCell ⟨b + 3, 3, none⟩ (.int .i64 k4)) (b + 3) 48 [.slice a1 k1 c1', .slice a2 k2 c2', .slice a3 k3 c3', .int .i64 k4] := set4_blk B4J.out _ _ _ _
     have hcw : Chg [b + 3] U ((((U.drew.setCell ⟨b + 3, 0, none⟩ (.slice a1 k1 c1')).setCell ⟨b + 3, 1, none⟩ (.slice a2 k2 c2')).setCell ⟨b + 3, 2, none⟩ (.slice a3 k3 c3')).setCell ⟨b + 3, 3, none⟩ (.int .i64 k4)) := (Chg.of_ext _ (Ext.refl U).drew).trans (set4_chg _ _ _ _) (fun x hx => Or.inl hx)
     obtain ⟨U2, hU2⟩ := ex (((((U.drew.setCell ⟨b + 3, 0, none⟩ (.slice a1 k1 c1')).setCell ⟨b + 3, 1, none⟩ (.slice a2 k2 c2')).setCell ⟨b + 3, 2, none⟩ (.slice a3 k3 c3')).setCell ⟨b + 3, 3, none⟩ (.int .i64 k4)))
     rw [hU2] at B5 hcw ⊢
     have hfin : ExeP w E (.ok (s.ar, s.cx, s.out, s.steps)) (.returned (.tuple #[.agg #[.slice a1 k1 c1', .slice a2 k2 c2', .slice a3 k3 c3', .int .i64 k4], .int .i64 0])) U2 := by
      have hB4 : b + 4 ≤ B := by rw [← hBe.out, ← s4I.out]; exact hX3I.out.size
      have hmr := hMUI.out.rows.chg hcw (fun x hx hm => by
       have h1 := (hMUI.out.rows.lt (List.mem_cons_of_mem _ hm)).1
       simp at hx
       omega)
      obtain ⟨hm1, hm2⟩ := rows_memR hmr
      have hBw : w.heap.size ≤ B := by rw [← hBe.out]; exact (XW.out.trans hX3I.out).size
      rw [hv1.out, hv2.out] at hm1
      rw [hv3.out] at hm2
      exact ⟨_, _, _, s, by rw [hk4I.out], hm1.base hBw, own_mono hm2 hBw, hs.out, rfl, rfl, rfl, rfl, ((Chg.of_ext [] (XW.out.trans (hX3I.out.trans hXUI.out))).trans hcw (fun x hx => by simp at hx; have := hbw.out; right; omega)).ext⟩
     obtain ⟨z0, z1, z2, z3⟩ := B5.c4
     have hfinI := hidden hfin
     replace hU2 := hidden hU2
     clear hfin hcw B5 f0 f1 f2 f3 g0 g1 g2 g3 HS e7 e8 e12 e13
     go_wp2_with fail
     refine bodyPost_ret (v := .tuple #[.agg #[.slice a1 k1 c1', .slice a2 k2 c2', .slice a3 k3 c3', .int .i64 k4], .int .i64 0]) (by simp [results, Tryz.results20, go_sem, z0, z1, z2, z3]) rfl ?_
     rw [← hRe.out]
     exact hfinI.out
    ·rw [if_neg (fun e => hs0 (by rw [← hnse, e]; rfl))] at hRend
     have hRe := Option.some.inj hRend
     subst hRe
     have hnpos : (0 : Int) < (ns : Int) := by omega
     have hnpos2 : 0 < ns := by omega
     have hX5 := hidden (hX3I.out.trans hXU)
     replace hnse := hidden hnse
     clear hRend hs0 hMU hXU
     have B4 := P4I.out.ext hX5.out
     obtain ⟨f0, f1, f2, f3⟩ := B4.fz4
     obtain ⟨g0, g1, g2, g3⟩ := B4.c4
     have B4I := hidden B4
     have hX4I := hidden (XW.out.trans hX5.out)
     clear B4
     go_wp2_with fail
     have B5 := set4_blk B4I.out (.slice none 0 0) (.slice none 0 0) (.slice none 0 0) (.int .i64 0)
     obtain ⟨z0, z1, z2, z3⟩ := B5.c4
     refine bodyPost_ret (v := .tuple #[.agg #[.slice none 0 0, .slice none 0 0, .slice none 0 0, .int .i64 0], .int .i64 14]) (by simp [results, Tryz.results20, go_sem, z0, z1, z2, z3]) rfl ?_
     exact ⟨rfl, set4_ext hX4I.out hbw.out _ _ _ _⟩
end Go.Proofs.YtgjjklajipekdaaGreat
