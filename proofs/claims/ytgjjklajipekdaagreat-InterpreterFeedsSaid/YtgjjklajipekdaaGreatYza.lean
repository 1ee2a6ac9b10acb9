
import Derived.Test.YtgjjklajipekdaaGreatYy
namespace Go.Proofs.YtgjjklajipekdaaGreat
set_option maxHeartbeats 16000000
set_option maxRecDepth 100000
open Go.RowKit
set_option linter.unusedVariables false
set_option linter.unusedSimpArgs false
attribute [local go_sem ↓] Go.wp_at_zero Go.wp_at_succ
theorem set4_blk {w : World} {z : Nat} {t : TypeId} {a b c d : Value} (h : Blk w z t [a, b, c, d]) (a' b' c' d' : Value) : Blk ((((w.setCell ⟨z, 0, none⟩ a').setCell ⟨z, 1, none⟩ b').setCell ⟨z, 2, none⟩ c').setCell ⟨z, 3, none⟩ d') z t [a', b', c', d'] :=
 (((h.set 0 a').set 1 b').set 2 c').set 3 d'
theorem set4_chg {w : World} {z : Nat} (a' b' c' d' : Value) : Chg [z] w ((((w.setCell ⟨z, 0, none⟩ a').setCell ⟨z, 1, none⟩ b').setCell ⟨z, 2, none⟩ c').setCell ⟨z, 3, none⟩ d') :=
 ((((Chg.refl _ _).setCell (Or.inl (by simp)) _).setCell (Or.inl (by simp)) _).setCell (Or.inl (by simp)) _).setCell (Or.inl (by simp)) _
theorem set4_ext {w w' : World} {z : Nat} (h : Ext w w') (hz : w.heap.size ≤ z) (a' b' c' d' : Value) : Ext w ((((w'.setCell ⟨z, 0, none⟩ a').setCell ⟨z, 1, none⟩ b').setCell ⟨z, 2, none⟩ c').setCell ⟨z, 3, none⟩ d') :=
 ((Chg.of_ext [] h).trans (set4_chg a' b' c' d') (fun x hx => Or.inr (by rw [List.mem_singleton.1 hx]; exact hz))).ext
theorem irunf_any (va vc ma mc : Value) (A : List (Bool × Int)) (L : Int) (C : List (Int × Int)) (ar : List (List Int)) (cx : List Int) (inp : Int) (en : Bool) (fu : Int) (hA : OkA A) (hC : OkI C) (hL0 : -9223372036854775808 ≤ L) (hL1 : L ≤ 9223372036854775807)
  (hf0 : -9223372036854775808 ≤ fu) (hf1 : fu ≤ 9223372036854775807) (hi : U32 inp) (hau : ∀ a ∈ ar, ∀ x ∈ a, U32 x) (hcu : ∀ x ∈ cx, U32 x) (hal : ∀ a ∈ ar, a.length ≤ 100000) (w : World) (ra : Arr w va A) (rc : Cod w vc C) (hM : MemR w ma mc ar cx) :
  Calls Tryz.prog 19 #[.agg #[va, .int .i64 L, vc], .agg #[ma, mc], .agg #[.int .u32 inp, .bool en, .int .i64 fu]] w (ExeP w (envOf A L C inp en fu) (runR A L C ar cx inp en fu)) := by
 obtain ⟨b, hb⟩ := ex w.heap.size
 obtain ⟨W1, hW1, X1, P1⟩ := alx w #[va, .int .i64 L, vc] [va, .int .i64 L, vc] 25 b hb
 have s1 : W1.heap.size = b + 1 := by rw [← hW1, ← hb]; exact Array.size_push ..
 obtain ⟨W2, hW2, X2, P2⟩ := alx W1 #[ma, mc] [ma, mc] 29 (b + 1) s1
 have s2 : W2.heap.size = b + 1 + 1 := by rw [← hW2]; show (W1.heap.push _).size = _; rw [Array.size_push, s1]
 obtain ⟨W3, hW3, X3, P3⟩ := alx W2 #[.int .u32 inp, .bool en, .int .i64 fu] [.int .u32 inp, .bool en, .int .i64 fu] 44 (b + 1 + 1) s2
 have s3 : W3.heap.size = b + 1 + 1 + 1 := by rw [← hW3]; show (W2.heap.push _).size = _; rw [Array.size_push, s2]
 obtain ⟨W4, hW4, X4, P4⟩ := alx W3 #[.slice none 0 0, .slice none 0 0, .slice none 0 0, .int .i64 0] [.slice none 0 0, .slice none 0 0, .slice none 0 0, .int .i64 0] 48 (b + 1 + 1 + 1) s3
 have Y3 := X3.trans X4
 have Y2 := X2.trans Y3
 have XW := hidden (X1.trans Y2)
 have hW : Hid (((((w.alloc (.cells #[va, .int .i64 L, vc] 25)).alloc (.cells #[ma, mc] 29)).alloc (.cells #[.int .u32 inp, .bool en, .int .i64 fu] 44)).alloc (.cells #[.slice none 0 0, .slice none 0 0, .slice none 0 0, .int .i64 0] 48)) = W4) := hidden (by rw [hW1, hW2, hW3, hW4])
 replace P1 := P1.ext Y2
 replace P2 := P2.ext Y3
 replace P3 := P3.ext X4
 obtain ⟨p0, p1, p2⟩ := P1.c3
 obtain ⟨m0, m1⟩ := P2.c2
 obtain ⟨c0, c1, c2⟩ := P3.c3
 clear X1 X2 X3 X4 Y2 Y3 hW1 hW2 hW3 hW4 s1 s2 s3 P1 P2 P3
 clear W1 W2 W3
 have hus := hidden (iusable_any va vc A L C hA hC hL0 hL1 W4 (Rd.ext ra XW.out) (Rd.ext rc XW.out))
 have hck := hidden (fun (W : World) (h : Ext W4 W) => icheckm_any va vc ma mc A L C ar cx hA hC hL0 hL1 W (Rd.ext ra (XW.out.trans h)) (Rd.ext rc (XW.out.trans h)) (hM.ext (XW.out.trans h)) hal)
 have hir := hidden (irange_any fu hf0 hf1)
 have hex := hidden (fun (W : World) (h : Ext W4 W) (vp : Value) (hp : RdP W vp (usP A L C)) (hu : usE A L C = 0) (hc : chkM A L C ar cx = 0) (hfu : fu ≤ 281474976710656) =>
  let hr := ready_of (en := en) hC hu (chkM0 hc) hi hfu hau hcu
  iexecute_any va vc vp ma mc (envOf A L C inp en fu) ar cx hr.1 W (Rd.ext ra (XW.out.trans h)) (Rd.ext rc (XW.out.trans h)) hp (hM.ext (XW.out.trans h)) hr.2.1 _ _ (ready_run (en := en) hC hu (chkM0 hc) hi hfu hau hcu).choose_spec)
 have hrR := hidden (show runR A L C ar cx inp en fu = if usE A L C ≠ 0 then .error (usE A L C) else if chkM A L C ar cx ≠ 0 then .error (chkM A L C ar cx) else if 0 ≤ fu ∧ fu ≤ 281474976710656 then runF (envOf A L C inp en fu) (startS (envOf A L C inp en fu) ar cx) else .error 2 from rfl)
 generalize runR A L C ar cx inp en fu = R at *
 obtain ⟨aa, ca, rfl, -⟩ := Rd.shape ra
 obtain ⟨ac, cc, rfl, -⟩ := Rd.shape rc
 obtain ⟨aM, cM, hma, -⟩ := Rd.shape hM.choose_spec.1
 obtain ⟨aC, cC, hmc, -⟩ := Rd.shape hM.choose_spec.2.2
 subst hma
 subst hmc
 clear ra rc hM hau hcu hal hA hC hi
 have hEn := hidden (show envOf A L C inp en fu = envOf A L C inp en fu from rfl)
 generalize hEv : envOf A L C inp en fu = EV at *
 have hLp : Hid (EV.L = L) := hidden (by rw [← hEv]; rfl)
 have hip : Hid (EV.inp = inp) := hidden (by rw [← hEv]; rfl)
 have hep : Hid (EV.ended = en) := hidden (by rw [← hEv]; rfl)
 have hfp : Hid (EV.fuel = fu) := hidden (by rw [← hEv]; rfl)
 clear hEv hEn
 generalize hue : usE A L C = ue at *
 generalize hup : usP A L C = up at *
 generalize hcm : chkM A L C ar cx = cm at *
 generalize hla : A.length = la at *
 generalize hlc : C.length = lc at *
 generalize hlr : ar.length = lr at *
 generalize hlx : cx.length = lx at *
 clear hue hup hcm hla hlc hlr hlx
 have P4I := hidden P4
 clear P4
 go_enter Tryz.func19, Tryz.ntmps19
 go_wp2_with fail
 rw [hW.out]
 refine hus.out.mono ?_
 rintro x w1 ⟨vp, rfl, hO, hX1⟩
 have q0 := hX1.cell p0
 have q1 := hX1.cell p1
 have q2 := hX1.cell p2
 have n0 := hX1.cell m0
 have n1 := hX1.cell m1
 have k0 := hX1.cell c0
 have k1 := hX1.cell c1
 have k2 := hX1.cell c2
 have hOI := hidden hO
 have hX1I := hidden hX1
 clear p0 p1 p2 m0 m1 c0 c1 c2 hO hX1
 by_cases hu0 : ue = 0
 ·subst hu0
  go_wp2_with fail
  refine (hck.out w1 hX1I.out).mono ?_
  rintro x w2 ⟨rfl, hX2⟩
  have r0 := hX2.cell q0
  have r1 := hX2.cell q1
  have r2 := hX2.cell q2
  have o0 := hX2.cell n0
  have o1 := hX2.cell n1
  have l0 := hX2.cell k0
  have l1 := hX2.cell k1
  have l2 := hX2.cell k2
  have hOp := hidden (own_ext hOI.out hX2)
  have hX2I := hidden (hX1I.out.trans hX2)
  clear q0 q1 q2 n0 n1 k0 k1 k2 hX2 hck hus
  by_cases hc0 : cm = 0
  ·subst hc0
   go_wp2_with fail
   refine (hir.out w2).mono ?_
   rintro x w3 ⟨rfl, hw3⟩
   subst hw3
   by_cases hfu : 0 ≤ fu ∧ fu ≤ 281474976710656
   ·rw [decide_eq_true hfu.1, decide_eq_true hfu.2, Bool.and_self]
    have hRP : RdP w3 vp up := Rd.of_own hOp.out
    have hx := hex.out w3 hX2I.out vp hRP (by trivial) (by trivial) hfu.2
    rw [hLp.out, hip.out, hep.out, hfp.out] at hx
    have hRR : R = runF EV (startS EV ar cx) := by rw [hrR.out, if_neg (by simp), if_neg (by simp), if_pos hfu]
    rw [← hRR] at hx
    clear hex hRR hRP
    obtain ⟨ap, cp, rfl, -⟩ := own_shape (show w3.ownsRow _ _ _ vp _ _ from hOp.out)
    replace hx := hidden hx
    go_wp2_with fail
    refine hx.out.mono ?_
    clear hx
    intro x w4 hP
    have hbw : w.heap.size ≤ b + 1 + 1 + 1 := by omega
    replace hbw := hidden hbw
    cases R with
    | error e =>
     obtain ⟨rfl, hX4⟩ := hP
     have B4 := P4I.out.ext (hX2I.out.trans hX4)
     obtain ⟨f0, f1, f2, f3⟩ := B4.fz4
     obtain ⟨g0, g1, g2, g3⟩ := B4.c4
     have B4I := hidden B4
     have hX4I := hidden (XW.out.trans (hX2I.out.trans hX4))
     clear B4 hX4 r0 r1 r2 o0 o1 l0 l1 l2 hOp hOI
     go_wp2_with fail
     have B5 := set4_blk B4I.out (.slice none 0 0) (.slice none 0 0) (.slice none 0 0) (.int .i64 0)
     obtain ⟨z0, z1, z2, z3⟩ := B5.c4
     refine bodyPost_ret (v := .tuple #[.agg #[.slice none 0 0, .slice none 0 0, .slice none 0 0, .int .i64 0], .int .i64 e]) (by simp [results, Tryz.results19, go_sem, z0, z1, z2, z3]) rfl ?_
     exact ⟨rfl, set4_ext hX4I.out hbw.out _ _ _ _⟩
    | ok r =>
     obtain ⟨ar', cx', out', st'⟩ := r
     obtain ⟨va', vc', vo, s', rfl, hM', hO', hS', rfl, rfl, rfl, rfl, hX4⟩ := hP
     have B4 := P4I.out.ext (hX2I.out.trans hX4)
     obtain ⟨f0, f1, f2, f3⟩ := B4.fz4
     obtain ⟨g0, g1, g2, g3⟩ := B4.c4
     have B4I := hidden B4
     have hX4I := hidden (XW.out.trans (hX2I.out.trans hX4))
     have hM1 := hM'
     obtain ⟨vs', hO1, -, hO2⟩ := hM1
     replace hO2 : w4.ownsRow w3.heap.size 42 1 vc' s'.cx.length (s'.cx.map (Value.int .u32)) := hO2
     obtain ⟨a1, c1', rfl, -⟩ := own_shape hO1
     obtain ⟨a2, c2', rfl, -⟩ := own_shape hO2
     obtain ⟨a3, c3', rfl, -⟩ := own_shape hO'
     clear hO1 hO2
     have hb3 : b + 1 + 1 + 1 < w3.heap.size := (P4I.out.ext hX2I.out).lt
     have hbs := hX2I.out.size
     have hbs2 := XW.out.size
     have hMI := hidden hM'
     have hOI2 := hidden hO'
     have hSI := hidden hS'
     generalize hn1 : s'.ar.length = j1 at *
     generalize hn2 : s'.cx.length = j2 at *
     generalize hn3 : s'.out.length = j3 at *
     generalize hn4 : s'.steps = j4 at *
     replace hn1 := hidden hn1
     replace hn2 := hidden hn2
     replace hn3 := hidden hn3
     replace hn4 := hidden hn4
     have hb3I := hidden hb3
     have hbb : w.heap.size ≤ w3.heap.size := Nat.le_trans hbs2 hbs
     have hbbI := hidden hbb
     clear hM' hO' hS' B4 hX4 r0 r1 r2 o0 o1 l0 l1 l2 hOp hOI hb3 hbs hbs2 hbb
     go_wp2_with fail
     have hc5 := set4_chg (w := w4) (z := b + 1 + 1 + 1) (.slice a1 j1 c1') (.slice a2 j2 c2') (.slice a3 j3 c3') (.int .i64 j4)
     have B5 := set4_blk B4I.out (.slice a1 j1 c1') (.slice a2 j2 c2') (.slice a3 j3 c3') (.int .i64 j4)
     obtain ⟨z0, z1, z2, z3⟩ := B5.c4
     refine bodyPost_ret (v := .tuple #[.agg #[.slice a1 j1 c1', .slice a2 j2 c2', .slice a3 j3 c3', .int .i64 j4], .int .i64 0]) (by simp [results, Tryz.results19, go_sem, z0, z1, z2, z3]) rfl ?_
     have hlow : ∀ x ∈ [b + 1 + 1 + 1], x < w3.heap.size := fun x hx => by rw [List.mem_singleton.1 hx]; exact hb3I.out
     have hm := (hMI.out.chg hc5 hlow).base hbbI.out
     have ho := own_mono (own_low hOI2.out hc5 hlow) hbbI.out
     exact ⟨_, _, _, s', rfl, hm, (by rw [hn3.out]; exact ho), hSI.out, rfl, rfl, rfl, hn4.out, set4_ext hX4I.out hbw.out _ _ _ _⟩
   ·have hfd : (decide (0 ≤ fu) && decide (fu ≤ 281474976710656)) = false := by
     rcases Decidable.not_and_iff_or_not.1 hfu with h | h
     ·rw [decide_eq_false h]; rfl
     ·rw [decide_eq_false h, Bool.and_false]
    rw [hfd]
    replace hfu := hidden hfu
    have B4 := P4I.out.ext hX2I.out
    obtain ⟨f0, f1, f2, f3⟩ := B4.fz4
    obtain ⟨g0, g1, g2, g3⟩ := B4.c4
    have B4I := hidden B4
    clear B4
    go_wp2_with fail
    have B5 := set4_blk B4I.out (.slice none 0 0) (.slice none 0 0) (.slice none 0 0) (.int .i64 0)
    obtain ⟨z0, z1, z2, z3⟩ := B5.c4
    refine bodyPost_ret (v := .tuple #[.agg #[.slice none 0 0, .slice none 0 0, .slice none 0 0, .int .i64 0], .int .i64 2]) (by simp [results, Tryz.results19, go_sem, z0, z1, z2, z3]) rfl ?_
    rw [hrR.out, if_neg (by simp), if_neg (by simp), if_neg hfu.out]
    exact ⟨rfl, set4_ext (XW.out.trans hX2I.out) (by omega) _ _ _ _⟩
  ·replace hc0 := hidden hc0
   have B4 := P4I.out.ext hX2I.out
   obtain ⟨f0, f1, f2, f3⟩ := B4.fz4
   obtain ⟨g0, g1, g2, g3⟩ := B4.c4
   have B4I := hidden B4
   clear B4
   have hc0' := hc0.out
   go_wp2_with fail
   have B5 := set4_blk B4I.out (.slice none 0 0) (.slice none 0 0) (.slice none 0 0) (.int .i64 0)
   obtain ⟨z0, z1, z2, z3⟩ := B5.c4
   refine bodyPost_ret (v := .tuple #[.agg #[.slice none 0 0, .slice none 0 0, .slice none 0 0, .int .i64 0], .int .i64 cm]) (by simp [results, Tryz.results19, go_sem, z0, z1, z2, z3]) rfl ?_
   rw [hrR.out, if_neg (by simp), if_pos hc0.out]
   exact ⟨rfl, set4_ext (XW.out.trans hX2I.out) (by omega) _ _ _ _⟩
 ·replace hu0 := hidden hu0
  have hu0' := hu0.out
  have B4 := P4I.out.ext hX1I.out
  obtain ⟨f0, f1, f2, f3⟩ := B4.fz4
  obtain ⟨g0, g1, g2, g3⟩ := B4.c4
  have B4I := hidden B4
  clear B4
  go_wp2_with fail
  have B5 := set4_blk B4I.out (.slice none 0 0) (.slice none 0 0) (.slice none 0 0) (.int .i64 0)
  obtain ⟨z0, z1, z2, z3⟩ := B5.c4
  refine bodyPost_ret (v := .tuple #[.agg #[.slice none 0 0, .slice none 0 0, .slice none 0 0, .int .i64 0], .int .i64 ue]) (by simp [results, Tryz.results19, go_sem, z0, z1, z2, z3]) rfl ?_
  rw [hrR.out, if_pos hu0.out]
  exact ⟨rfl, set4_ext (XW.out.trans hX1I.out) (by omega) _ _ _ _⟩
def feedF (A : List (Bool × Int)) (L : Int) (C : List (Int × Int)) (D : List Int) (fu : Int) : Nat → Nat → List (List Int) → List Int → List Int → Int → Out
 | 0, _, ar, cx, out, st => .ok (ar, cx, out, st)
 | m + 1, i, ar, cx, out, st => match runR A L C ar cx (if i < D.length then D.getD i 0 else 0) (decide (i = D.length)) (fu - st) with
  | .error e => .error e
  | .ok (ar', cx', out', st') => if 65536 < (out ++ out').length then .error 5 else feedF A L C D fu m (i + 1) ar' cx' (out ++ out') (st + st')
def feedR (A : List (Bool × Int)) (L : Int) (C : List (Int × Int)) (D : List Int) (fu : Int) : Out :=
 if usE A L C ≠ 0 then .error (usE A L C) else if 65536 < D.length then .error 5 else if 0 ≤ fu ∧ fu ≤ 281474976710656 then feedF A L C D fu (D.length + 1) 0 (zerosA A) (List.replicate 16 0) [] 0 else .error 2
theorem big_zero (n : Nat) : bigA (List.replicate n 0) = false := by
 unfold bigA
 rw [List.any_eq_false]
 intro x hx
 rw [List.eq_of_mem_replicate hx]
 decide
theorem fits_zeros {A : List (Bool × Int)} (h : ∀ x ∈ A, 1 ≤ x.2 ∧ x.2 ≤ 65536) : fitsF A (zerosA A) (List.replicate 16 0) = true := by
 refine fits_of (by unfold zerosA; rw [List.length_map]) (List.length_replicate ..) fun k x a hx ha => ?_
 unfold zerosA at ha
 rw [List.getElem?_map, hx] at ha
 simp only [Option.map_some, Option.some.injEq] at ha
 subst ha
 have h1 := h x (List.mem_of_getElem? hx)
 unfold fit1
 simp only [Bool.and_eq_true, decide_eq_true_eq, List.length_replicate, big_zero, Bool.not_false, Bool.or_true, and_true]
 omega
structure Mid (A : List (Bool × Int)) (ar : List (List Int)) (cx out : List Int) (st fu : Int) : Prop where
 fit : fitsF A ar cx = true
 au : ∀ a ∈ ar, ∀ x ∈ a, U32 x
 cu : ∀ x ∈ cx, U32 x
 ob : ∀ x ∈ out, 0 ≤ x ∧ x ≤ 255
 ol : out.length ≤ 65536
 s0 : 0 ≤ st
 s1 : st ≤ fu
 al : ∀ a ∈ ar, a.length ≤ 65536
 f1 : fu ≤ 281474976710656
theorem mid_start {A : List (Bool × Int)} {fu : Int} (h : ∀ x ∈ A, 1 ≤ x.2 ∧ x.2 ≤ 65536) (h0 : 0 ≤ fu) (h1 : fu ≤ 281474976710656) : Mid A (zerosA A) (List.replicate 16 0) [] 0 fu := by
 refine ⟨fits_zeros h, ?_, ?_, (fun x hx => by cases hx), by simp, Int.le_refl _, h0, ?_, h1⟩
 ·intro a ha x hx
  unfold zerosA at ha
  obtain ⟨y, hy, rfl⟩ := List.mem_map.1 ha
  rw [List.eq_of_mem_replicate hx]
  exact ⟨by decide, by decide⟩
 ·intro x hx
  rw [List.eq_of_mem_replicate hx]
  exact ⟨by decide, by decide⟩
 ·intro a ha
  unfold zerosA at ha
  obtain ⟨y, hy, rfl⟩ := List.mem_map.1 ha
  have := h y hy
  rw [List.length_replicate]
  omega
theorem mid_run {A : List (Bool × Int)} {L : Int} {C : List (Int × Int)} {ar : List (List Int)} {cx out : List Int} {st fu inp : Int} {en : Bool} (hC : OkI C) (hu : usE A L C = 0) (hi : U32 inp) (h : Mid A ar cx out st fu) :
  runR A L C ar cx inp en (fu - st) = runF (envOf A L C inp en (fu - st)) (startS (envOf A L C inp en (fu - st)) ar cx) ∧
  OkE (envOf A L C inp en (fu - st)) ∧ OkS (envOf A L C inp en (fu - st)) (startS (envOf A L C inp en (fu - st)) ar cx) ∧
  (∃ n, runN (envOf A L C inp en (fu - st)) n (startS (envOf A L C inp en (fu - st)) ar cx) = some (runF (envOf A L C inp en (fu - st)) (startS (envOf A L C inp en (fu - st)) ar cx))) := by
 have h1 := h.s0
 have h2 := h.s1
 have h3 := h.f1
 have hck : chkM A L C ar cx = 0 := by
  unfold chkM
  rw [if_pos (usE_ok hu).1, if_pos h.fit]
 obtain ⟨r1, r2, r3⟩ := ready_of (inp := inp) (en := en) (fu := fu - st) hC hu h.fit hi (by omega) h.au h.cu
 refine ⟨?_, r1, r2, runF_run r1 r2 r3⟩
 unfold runR
 rw [if_neg (by rw [hu]; simp), if_neg (by rw [hck]; simp), if_pos ⟨by omega, by omega⟩]
theorem mid_next {A : List (Bool × Int)} {L : Int} {C : List (Int × Int)} {ar : List (List Int)} {cx out : List Int} {st fu inp : Int} {en : Bool} (hC : OkI C) (hu : usE A L C = 0) (hi : U32 inp) (h : Mid A ar cx out st fu) {s' : MS} {n : Nat}
  (hr : runN (envOf A L C inp en (fu - st)) n (startS (envOf A L C inp en (fu - st)) ar cx) = some (.ok (s'.ar, s'.cx, s'.out, s'.steps))) (hs : OkS (envOf A L C inp en (fu - st)) s') (hl : (out ++ s'.out).length ≤ 65536) : Mid A s'.ar s'.cx (out ++ s'.out) (st + s'.steps) fu := by
 obtain ⟨i1, i2⟩ := inv_run n _ _ _ _ _ hr (by show (0 : Int) ≤ fu - st; have := h.s1; omega) h.fit
 have h0 := hs.s0
 have h1 := h.s0
 change s'.steps ≤ fu - st at i1
 refine ⟨i2, fun a ha => (hs.arv a ha).2, hs.cxv, ?_, hl, by omega, by omega, fun a ha => (hs.arv a ha).1, h.f1⟩
 intro x hx
 rcases List.mem_append.1 hx with hx | hx
 ·exact h.ob x hx
 ·exact hs.outv x hx
theorem appendD0 {P : Program} {md : Region.Mode} {ops : Array Oper} {Q : Exit → Act → World → Prop} {S : World → Prop} {D : List Nat} {fuel : Nat} {listed : Array Bool} (i : Nat) {oi : Oper} {dd : Tmp} {a : Act} {w : World} (hii : ops[i]? = some oi) (hd : oi.dst = some dd) (gi : oi.guard = none)
  (hrd : Region.ready md ops listed = [i]) (s x : Operand) (t : TypeId)
  (ho : oi.op = .call { callee := .builtin .append, args := #[s, x], argTypes := #[t, t] })
  (base : Nat) (e : TypeId) (i1 : TypeInfo) (z : Value) (size bytes : Nat) (ht : P.underlying t = some (.slice e)) (hi : P.info? e = some i1) (hz : i1.zero = some z)
  (hsize : i1.size = size) (hby : i1.bytes = bytes) (hzs : z.cells.size = size) (hsz : 0 < size)
  (v : Value) (n : Nat) (xs : List Value) (hs : a.eval s = v) (hown : w.ownsRow base e size v n xs)
  (y : Option Addr) (m c : Nat) (news : List Value) (hx : a.eval x = .slice y m c) (hr : Rd w size (.slice y m c) m news) (h1 : ∀ u ∈ news, u.oneCell' = true)
  (h63 : n + m ≤ maxLen) (hbytes : (n + m) * bytes ≤ 140737488355328) (hbase : base ≤ w.heap.size)
  (h : ∀ v' w', w'.ownsRow base e size v' (n + m) (xs ++ news) → w.grownBy w' v.ownBlock → (v'.ownBlock = v.ownBlock ∨ v'.ownBlock = some w.heap.size) →
   (i ∉ D → S w') ∧ wpAnyD P md ops Q S D fuel (listed.setIfInBounds i true) { a with tmps := a.tmps.setIfInBounds dd v' } w') :
  wpAnyD P md ops Q S D (fuel + 1) listed a w := by
 cases y with
 | none =>
  obtain ⟨hl, a', cap', e1, h3, h4, h5, h6⟩ := hr
  simp only [Value.slice.injEq] at e1
  obtain ⟨rfl, -, rfl⟩ := e1
  have hc := h5 rfl
  subst hc
  obtain rfl : m = 0 := by omega
  obtain rfl : news = [] := List.eq_nil_of_length_eq_zero (by omega)
  have hrr := run_append_owned_none (P := P) (w := w) base t oi.type e i1 size ht hi v n xs hown
  obtain ⟨hS, hh⟩ := h v w (by simpa using hown) ⟨rfl, rfl, rfl, Nat.le_refl _, fun _ _ _ => rfl⟩ (Or.inl rfl)
  refine valueD i v hii hd hrd (by unfold Region.wanted; rw [gi]) (w' := w) ?_ hS hh
  unfold execOp
  simp only [ho, resolve, invoke, builtin, Sem.run_bind, Sem.run_pure, Result.andThen_ok, List.map_toArray, List.map_cons, List.map_nil, hs, hx, hrr]
 | some ad =>
  obtain ⟨v', w', hrr, h2, h3, h4, h5⟩ := run_append_own_at (P := P) w base t oi.type e i1 z size bytes ht hi hz hsize hby hzs hsz v n xs hown ad m c news hr.1 (Rd.news hr) h1 h63 hbytes hbase
  obtain ⟨hS, hh⟩ := h v' w' h2 h3 h5
  refine valueD i v' hii hd hrd (by unfold Region.wanted; rw [gi]) (w' := w') ?_ hS hh
  unfold execOp
  simp only [ho, resolve, invoke, builtin, Sem.run_bind, Sem.run_pure, Result.andThen_ok, List.map_toArray, List.map_cons, List.map_nil, hs, hx, hrr]
theorem feed21 {Q : Exit → Act → World → Prop} {W : World} {z g n3 d3 j1 j2 j3 : Nat} {g1' g2' g3' : Nat} {e3 f1 f2 f3 : Option Addr} {st j4 : Int} {v0 v1 : Value} {xs news : List Value} (t0 t1 t2 t3 t4 t5 t6 t7 t8 t9 t11 t12 t14 t15 t16 t17 t18 t19 t20 t21 t22 t23 t24 t25 t26 t27 t28 t29 t30 t31 t32 t33 t34 t35 t36 t37 t38 t39 t40 t41 t42 t43 t44 t45 t46 t47 t48 t49 t50 t51 t52 t53 t54 t55 t56 t57 t58 t59 t60 t61 t62 t63 t64 t65 t66 t67 t68 t69 t70 t71 t72 t73 t74 t75 t76 t77 t78 t79 t80 t81 t82 t83 t84 t85 t86 t87 t88 t89 t90 t91 t92 t93 t94 t95 t96 t97 t98 t99 t100 : Value)
  (hQ : ∀ (d : Tmp) {c : List PanicEntry} {a : Act} {v : Value} {w : World}, Q (.panic c) (a.put (some d) v) w → Q (.panic c) a w)
  (Z8 : Hid (Blk W z 48 [v0, v1, .slice e3 n3 d3, .int .i64 st])) (G8 : Hid (Blk W g 48 [.slice f1 j1 g1', .slice f2 j2 g2', .slice f3 j3 g3', .int .i64 j4]))
  (Oz : Hid (W.ownsRow (z + 1) 5 1 (.slice e3 n3 d3) n3 xs)) (hnews : Hid (Rd W 1 (.slice f3 j3 g3') j3 news)) (hone : ∀ u ∈ news, u.oneCell' = true) (hn3 : n3 ≤ 65536) (hj3 : j3 ≤ 65536) (hst4 : IntKind.i64.wrap (st + j4) = st + j4)
  (hk : ∀ (a9 : Option Addr) (c9 : Nat) (w9 : World), w9.ownsRow (z + 1) 5 1 (.slice a9 (n3 + j3) c9) (n3 + j3) (xs ++ news) → W.drew.grownBy w9 (Value.slice e3 n3 d3).ownBlock → ((Value.slice a9 (n3 + j3) c9).ownBlock = (Value.slice e3 n3 d3).ownBlock ∨ (Value.slice a9 (n3 + j3) c9).ownBlock = some W.drew.heap.size) → Blk w9 z 48 [v0, v1, .slice e3 n3 d3, .int .i64 st] →
   Q .normal { tmps := #[t0, t1, t2, t3, t4, t5, t6, t7, t8, t9, .pointer (some ⟨z, 0, none⟩), t11, t12, .pointer (some ⟨g, 0, none⟩), t14, t15, t16, t17, t18, t19, t20, t21, t22, t23, t24, t25, t26, t27, t28, t29, t30, t31, t32, t33, t34, t35, t36, t37, t38, t39, t40, t41, t42, t43, t44, t45, t46, t47, t48, t49, t50, t51, t52, t53, t54, t55, t56, t57, t58, t59, t60, t61, t62, t63, t64, t65, t66, t67, t68, t69, t70, t71, t72, t73, t74, t75, t76, t77, t78, t79, t80, .pointer (some ⟨g, 0, none⟩), .agg #[.slice f1 j1 g1', .slice f2 j2 g2'], .pointer (some ⟨z, 2, none⟩), .slice e3 n3 d3, .pointer (some ⟨g, 2, none⟩), .slice f3 j3 g3', .slice a9 (n3 + j3) c9, .pointer (some ⟨z, 3, none⟩), .int .i64 st, .pointer (some ⟨g, 3, none⟩), .int .i64 j4, .int .i64 (st + j4), .agg #[.slice f1 j1 g1', .slice f2 j2 g2', .slice a9 (n3 + j3) c9, .int .i64 (st + j4)], t94, t95, t96, t97, t98, t99, t100], defers := [] } ((((w9.setCell ⟨z, 0, none⟩ (.slice f1 j1 g1')).setCell ⟨z, 1, none⟩ (.slice f2 j2 g2')).setCell ⟨z, 2, none⟩ (.slice a9 (n3 + j3) c9)).setCell ⟨z, 3, none⟩ (.int .i64 (st + j4)))) :
  (Code.region 21 #[{ dst := some 81, op := Op.fieldAddr 48 (Operand.tmp 13) 0, type := 0, pos := "interpreter.go:350", after := #[], guard := none }, { dst := some 82, op := Op.load 29 (Operand.tmp 81), type := 29, pos := "interpreter.go:350", after := #[{ on := 0, ground := Ground.data }], guard := none }, { dst := some 83, op := Op.fieldAddr 48 (Operand.tmp 10) 1, type := 0, pos := "interpreter.go:350", after := #[], guard := none }, { dst := some 84, op := Op.load 46 (Operand.tmp 83), type := 46, pos := "interpreter.go:350", after := #[{ on := 2, ground := Ground.data }], guard := none }, { dst := some 85, op := Op.fieldAddr 48 (Operand.tmp 13) 1, type := 0, pos := "interpreter.go:350", after := #[], guard := none }, { dst := some 86, op := Op.load 46 (Operand.tmp 85), type := 46, pos := "interpreter.go:350", after := #[{ on := 4, ground := Ground.data }], guard := none }, { dst := some 87, op := Op.call { callee := Callee.builtin Builtin.append, args := #[Operand.tmp 84, Operand.tmp 86], argTypes := #[46, 46] }, type := 46, pos := "interpreter.go:350", after := #[{ on := 3, ground := Ground.data }, { on := 5, ground := Ground.data }], guard := none }, { dst := some 88, op := Op.fieldAddr 48 (Operand.tmp 10) 2, type := 0, pos := "interpreter.go:350", after := #[], guard := none }, { dst := some 89, op := Op.load 3 (Operand.tmp 88), type := 3, pos := "interpreter.go:350", after := #[{ on := 7, ground := Ground.data }], guard := none }, { dst := some 90, op := Op.fieldAddr 48 (Operand.tmp 13) 2, type := 0, pos := "interpreter.go:350", after := #[], guard := none }, { dst := some 91, op := Op.load 3 (Operand.tmp 90), type := 3, pos := "interpreter.go:350", after := #[{ on := 9, ground := Ground.data }], guard := none }, { dst := some 92, op := Op.binOp BinOp.add 3 (Operand.tmp 89) (Operand.tmp 91) 3, type := 3, pos := "interpreter.go:350", after := #[{ on := 8, ground := Ground.data }, { on := 10, ground := Ground.data }], guard := none }, { dst := some 93, op := Op.build 48 #[(0, Operand.tmp 82), (1, Operand.tmp 87), (2, Operand.tmp 92)], type := 48, pos := "interpreter.go:350", after := #[{ on := 1, ground := Ground.data }, { on := 6, ground := Ground.data }, { on := 11, ground := Ground.data }], guard := none }, { dst := none, op := Op.store 48 (Operand.tmp 10) (Operand.tmp 93), type := 0, pos := "interpreter.go:350", after := #[{ on := 12, ground := Ground.data }, { on := 6, ground := Ground.chain }, { on := 0, ground := Ground.phase }, { on := 1, ground := Ground.phase }, { on := 2, ground := Ground.phase }, { on := 3, ground := Ground.phase }, { on := 4, ground := Ground.phase }, { on := 5, ground := Ground.phase }, { on := 6, ground := Ground.phase }, { on := 7, ground := Ground.phase }, { on := 8, ground := Ground.phase }, { on := 9, ground := Ground.phase }, { on := 10, ground := Ground.phase }, { on := 11, ground := Ground.phase }, { on := 12, ground := Ground.phase }], guard := none }] true).wp Tryz.prog Q { tmps := #[t0, t1, t2, t3, t4, t5, t6, t7, t8, t9, .pointer (some ⟨z, 0, none⟩), t11, t12, .pointer (some ⟨g, 0, none⟩), t14, t15, t16, t17, t18, t19, t20, t21, t22, t23, t24, t25, t26, t27, t28, t29, t30, t31, t32, t33, t34, t35, t36, t37, t38, t39, t40, t41, t42, t43, t44, t45, t46, t47, t48, t49, t50, t51, t52, t53, t54, t55, t56, t57, t58, t59, t60, t61, t62, t63, t64, t65, t66, t67, t68, t69, t70, t71, t72, t73, t74, t75, t76, t77, t78, t79, t80, t81, t82, t83, t84, t85, t86, t87, t88, t89, t90, t91, t92, t93, t94, t95, t96, t97, t98, t99, t100], defers := [] } W := by
 obtain ⟨i1, hi1, hy0, hy1, hy2⟩ := info_parts u8_info
 have hib := hidden hi1
 have o2 := Z8.out.cell 2 _ rfl
 have o3 := Z8.out.cell 3 _ rfl
 obtain ⟨m0, m1, m2, m3⟩ := G8.out.c4
 have hzb : z + 1 ≤ W.drew.heap.size := Z8.out.lt
 refine wp_region_D (S := fun w' => w'.cell? ⟨z, 2, none⟩ = some (.slice e3 n3 d3) ∧ w'.cell? ⟨z, 3, none⟩ = some (.int .i64 st) ∧ w'.cell? ⟨g, 0, none⟩ = some (.slice f1 j1 g1') ∧ w'.cell? ⟨g, 1, none⟩ = some (.slice f2 j2 g2') ∧ w'.cell? ⟨g, 2, none⟩ = some (.slice f3 j3 g3') ∧ w'.cell? ⟨g, 3, none⟩ = some (.int .i64 j4)) (D := [13]) (by kernel_rfl) ⟨o2, o3, m0, m1, m2, m3⟩ (fun HS => ?_)
 refine tkq 0 [1, 12, 13] (.pointer (some ⟨g, 0, none⟩)) rfl (fun _ _ _ h => hQ 81 h) HS ?_; try simp only [sx]
 refine tkq 1 [12, 13] (.agg #[.slice f1 j1 g1', .slice f2 j2 g2']) rfl (fun _ _ _ h => hQ 82 h) HS ?_; try simp only [sx]
 refine tkq 2 [3, 6, 12, 13] (.pointer (some ⟨z, 2, none⟩)) rfl (fun _ _ _ h => hQ 83 h) HS ?_; try simp only [sx]
 refine tkq 3 [6, 12, 13] (.slice e3 n3 d3) rfl (fun _ _ _ h => hQ 84 h) HS ?_; try simp only [sx]
 refine tkq 4 [5, 6, 12, 13] (.pointer (some ⟨g, 2, none⟩)) rfl (fun _ _ _ h => hQ 85 h) HS ?_; try simp only [sx]
 refine tkq 5 [6, 12, 13] (.slice f3 j3 g3') rfl (fun _ _ _ h => hQ 86 h) HS ?_; try simp only [sx]
 refine tkq 7 [8, 11, 12, 13] (.pointer (some ⟨z, 3, none⟩)) rfl (fun _ _ _ h => hQ 88 h) HS ?_; try simp only [sx]
 refine tkq 8 [11, 12, 13] (.int .i64 st) rfl (fun _ _ _ h => hQ 89 h) HS ?_; try simp only [sx]
 refine tkq 9 [10, 11, 12, 13] (.pointer (some ⟨g, 3, none⟩)) rfl (fun _ _ _ h => hQ 90 h) HS ?_; try simp only [sx]
 refine tkq 10 [11, 12, 13] (.int .i64 j4) rfl (fun _ _ _ h => hQ 91 h) HS ?_; try simp only [sx]
 refine tkq 11 [12, 13] (.int .i64 (st + j4)) rfl (fun _ _ _ h => hQ 92 h) HS ?_; try simp only [sx]
 refine appendD0 6 rfl rfl rfl (by kernel_rfl) _ _ 46 (by rfl) (z + 1) 5 i1 (.int .u8 0) 1 1 Tryz.underlying46 hib.out hy0 hy1 hy2 rfl (by decide) (.slice e3 n3 d3) n3 xs (by rfl) (own_ext Oz.out (Ext.refl W).drew) f3 j3 g3' news (by rfl) (Rd.ext hnews.out (Ext.refl W).drew) hone (by unfold maxLen; omega) (by omega) hzb ?_
 intro v'' w9 hown9 hgrow9 hat9
 obtain ⟨a9, c9, rfl, k91, k92, -⟩ := own_shape hown9
 have c90 : Chg (Value.slice e3 n3 d3).ownBlock.toList W.drew w9 := (Chg.refl _ _).grown hgrow9 (fun k hk => Or.inl (by simp [hk]))
 have hzq : z ∉ (Value.slice e3 n3 d3).ownBlock.toList := fun hm => own_ne_blk Oz.out Z8.out (by decide) (by simpa using hm)
 have hgq : g ∉ (Value.slice e3 n3 d3).ownBlock.toList := fun hm => own_ne_blk Oz.out G8.out (by decide) (by simpa using hm)
 replace HS := And.intro (c90.cell hzq HS.1) (And.intro (c90.cell hzq HS.2.1) (And.intro (c90.cell hgq HS.2.2.1) (And.intro (c90.cell hgq HS.2.2.2.1) (And.intro (c90.cell hgq HS.2.2.2.2.1) (c90.cell hgq HS.2.2.2.2.2)))))
 have Z9 := Z8.out.drew.chg c90 hzq
 obtain ⟨w0', w1', w2', w3'⟩ := Z9.c4
 obtain ⟨x0', x1', x2', x3'⟩ := Z9.fz4
 refine ⟨fun _ => HS, ?_⟩; try simp only [sx]
 refine tkq 12 [13] (.agg #[.slice f1 j1 g1', .slice f2 j2 g2', .slice a9 (n3 + j3) c9, .int .i64 (st + j4)]) rfl (fun _ _ _ h => hQ 93 h) HS ?_; try simp only [sx]
 refine storeD 13 rfl rfl (by kernel_rfl) (by rfl) (w' := ((((w9.setCell ⟨z, 0, none⟩ (.slice f1 j1 g1')).setCell ⟨z, 1, none⟩ (.slice f2 j2 g2')).setCell ⟨z, 2, none⟩ (.slice a9 (n3 + j3) c9)).setCell ⟨z, 3, none⟩ (.int .i64 (st + j4)))) (by go_simp) (fun h => absurd (by decide) h) ?_
 refine wpAnyD_done (by kernel_rfl) ?_ _
 exact hk a9 c9 w9 hown9 hgrow9 hat9 Z9
def Ne0 (r : Rs) : Prop := ∀ e, r = .err e → e ≠ 0
theorem Ne0.stuck : Ne0 .stuck := fun _ h => by cases h
theorem Ne0.go (s : MS) : Ne0 (.go s) := fun _ h => by cases h
theorem Ne0.err {e : Int} (h : e ≠ 0) : Ne0 (.err e) := fun _ k => by cases k; exact h
theorem Ne0.push (l : List Vl) (s : MS) : Ne0 (pushF l s) := by
 unfold pushF
 exact ite_both Ne0 (fun _ => Ne0.err (by decide)) (fun _ => Ne0.go _)
theorem Ne0.tick (E : Env) (s : MS) : Ne0 (tickF E s) := by
 unfold tickF
 exact ite_both Ne0 (fun _ => Ne0.go _) (fun _ => Ne0.err (by decide))
theorem ne0_exe {E : Env} {op arg : Int} {l : List Vl} {s : MS} : Ne0 (exeF E op arg l s) := by
 unfold exeF
 refine ite_both Ne0 (fun _ => Ne0.push _ _) (fun _ => ?_)
 refine ite_both Ne0 (fun _ => Ne0.push _ _) (fun _ => ?_)
 refine ite_both Ne0 (fun _ => Ne0.go _) (fun _ => ?_)
 refine ite_both Ne0 (fun _ => ?_) (fun _ => ?_)
 ·unfold getF
  exact ite_both Ne0 (fun _ => Ne0.err (by decide)) (fun _ => Ne0.push _ _)
 refine ite_both Ne0 (fun _ => ?_) (fun _ => ?_)
 ·unfold putF
  exact ite_both Ne0 (fun _ => Ne0.err (by decide)) (fun _ => Ne0.go _)
 refine ite_both Ne0 (fun _ => Ne0.push _ _) (fun _ => ?_)
 refine ite_both Ne0 (fun _ => Ne0.go _) (fun _ => ?_)
 refine ite_both Ne0 (fun _ => Ne0.push _ _) (fun _ => ?_)
 refine ite_both Ne0 (fun _ => ?_) (fun _ => ?_)
 ·unfold chooseF
  refine ite_both Ne0 (fun _ => Ne0.stuck) (fun _ => ite_both Ne0 (fun _ => Ne0.go _) (fun _ => ?_))
  split
  ·exact Ne0.stuck
  ·exact ite_both Ne0 (fun _ => Ne0.go _) (fun _ => ite_both Ne0 (fun _ => Ne0.go _) (fun _ => Ne0.stuck))
 refine ite_both Ne0 (fun _ => ?_) (fun _ => ?_)
 ·unfold otherF
  split
  ·exact Ne0.stuck
  ·refine ite_both Ne0 (fun _ => Ne0.err (by decide)) (fun _ => ?_)
   split
   ·exact Ne0.stuck
   ·exact ite_both Ne0 (fun _ => Ne0.go _) (fun _ => Ne0.stuck)
 refine ite_both Ne0 (fun _ => ?_) (fun _ => ?_)
 ·unfold loopF
  refine ite_both Ne0 (fun _ => Ne0.err (by decide)) (fun _ => ite_both Ne0 (fun _ => ?_) (fun _ => ite_both Ne0 (fun _ => Ne0.stuck) (fun _ => Ne0.tick _ _)))
  split
  ·exact Ne0.stuck
  ·exact Ne0.go _
 refine ite_both Ne0 (fun _ => ?_) (fun _ => ?_)
 ·unfold leaveF
  split
  ·exact Ne0.stuck
  ·refine ite_both Ne0 (fun _ => Ne0.err (by decide)) (fun _ => ite_both Ne0 (fun _ => Ne0.go _) (fun _ => ?_))
   split
   ·exact Ne0.stuck
   ·exact Ne0.go _
 refine ite_both Ne0 (fun _ => ?_) (fun _ => ?_)
 ·unfold endF
  split
  ·exact Ne0.stuck
  ·refine ite_both Ne0 (fun _ => Ne0.err (by decide)) (fun _ => ite_both Ne0 (fun _ => Ne0.tick _ _) (fun _ => Ne0.go _))
 refine ite_both Ne0 (fun _ => Ne0.push _ _) (fun _ => ?_)
 refine ite_both Ne0 (fun _ => Ne0.push _ _) (fun _ => ?_)
 refine ite_both Ne0 (fun _ => ?_) (fun _ => ?_)
 ·unfold emitF
  exact ite_both Ne0 (fun _ => Ne0.go _) (fun _ => Ne0.err (by decide))
 refine ite_both Ne0 (fun _ => Ne0.go _) (fun _ => ?_)
 unfold calcF
 exact ite_both Ne0 (fun h => Ne0.err h) (fun _ => Ne0.push _ _)
theorem ne0_pop {tys : List UInt8} {st : List Vl} {b e : Int} (h : popF tys st b = .error e) : e ≠ 0 := by
 unfold popF at h
 split at h
 ·cases h; decide
 ·split at h
  ·cases h
  ·cases h; decide
theorem ne0_step {E : Env} {s : MS} : Ne0 (stepF E s) := by
 unfold stepF
 refine ite_both Ne0 (fun _ => Ne0.err (by decide)) (fun _ => ite_both Ne0 (fun _ => Ne0.err (by decide)) (fun _ => ?_))
 split
 next e h => exact Ne0.err (ne0_pop h)
 next l r h =>
  intro e he
  cases hx : exeF E (opS E s) (argS E s) l (s1F E s r) with
  | stuck => rw [hx] at he; cases he
  | err e' => rw [hx] at he; cases he; exact ne0_exe _ hx
  | go t => rw [hx] at he; cases he
theorem ne0_run {E : Env} {e : Int} : ∀ (n : Nat) (s : MS), runN E n s = some (.error e) → e ≠ 0
 | 0, s, h => by cases h
 | n + 1, s, h => by
  unfold runN at h
  by_cases h1 : (E.C.length : Int) ≤ s.pc
  ·rw [if_pos h1] at h
   by_cases h2 : s.st = []
   ·rw [if_pos h2] at h; simp at h
   ·rw [if_neg h2] at h
    simp only [Option.some.injEq, Except.error.injEq] at h
    subst h; decide
  ·rw [if_neg h1] at h
   cases hx : stepF E s with
   | stuck => rw [hx] at h; cases h
   | err e' =>
    rw [hx] at h
    simp only [Option.some.injEq, Except.error.injEq] at h
    subst h
    exact ne0_step _ hx
   | go t => rw [hx] at h; exact ne0_run n t h
def FeedP (w : World) (R : Out) (x : Ending) (w' : World) : Prop :=
 match R with
 | .error e => x = .returned (.tuple #[.agg #[.slice none 0 0, .slice none 0 0, .slice none 0 0, .int .i64 0], .int .i64 e]) ∧ Ext w w'
 | .ok (ar, cx, out, st) => ∃ va vc vo, x = .returned (.tuple #[.agg #[va, vc, vo, .int .i64 st], .int .i64 0]) ∧ MemR w' va vc ar cx ∧ Rd w' 1 vo out.length (out.map (Value.int .u8)) ∧ Ext w w'
theorem ifeed_any (va vc vd : Value) (A : List (Bool × Int)) (L : Int) (C : List (Int × Int)) (D : List Int) (fu : Int) (hA : OkA A) (hC : OkI C) (hL0 : -9223372036854775808 ≤ L) (hL1 : L ≤ 9223372036854775807)
  (hf0 : -9223372036854775808 ≤ fu) (hf1 : fu ≤ 9223372036854775807) (hD : ∀ x ∈ D, 0 ≤ x ∧ x ≤ 255) (w : World) (ra : Arr w va A) (rc : Cod w vc C) (rd : Rd w 1 vd D.length (D.map (Value.int .u8))) :
  Calls Tryz.prog 22 #[.agg #[va, .int .i64 L, vc], vd, .int .i64 fu] w (FeedP w (feedR A L C D fu)) := by
 obtain ⟨i1, hi1, hy0, hy1, hy2⟩ := info_parts u8_info
 have hib := hidden hi1
 obtain ⟨b, hb⟩ := ex w.heap.size
 obtain ⟨W1, hW1, X1, P1⟩ := alx w #[va, .int .i64 L, vc] [va, .int .i64 L, vc] 25 b hb
 have s1 : W1.heap.size = b + 1 := by rw [← hW1, ← hb]; exact Array.size_push ..
 obtain ⟨W4, hW4, X4, P4⟩ := alx W1 #[.slice none 0 0, .slice none 0 0, .slice none 0 0, .int .i64 0] [.slice none 0 0, .slice none 0 0, .slice none 0 0, .int .i64 0] 48 (b + 1) s1
 have XW := hidden (X1.trans X4)
 have hW : Hid (((w.alloc (.cells #[va, .int .i64 L, vc] 25)).alloc (.cells #[.slice none 0 0, .slice none 0 0, .slice none 0 0, .int .i64 0] 48)) = W4) := hidden (by rw [hW1, hW4])
 replace P1 := P1.ext X4
 obtain ⟨p0, p1, p2⟩ := P1.c3
 have P1I := hidden P1
 have P4I := hidden P4
 have hbz := P4.lt
 clear X1 X4 hW1 hW4 s1 P4
 clear W1
 have hus := hidden (iusable_any va vc A L C hA hC hL0 hL1 W4 (Rd.ext ra XW.out) (Rd.ext rc XW.out))
 have hir := hidden (irange_any fu hf0 hf1)
 have hst := hidden (fun (W : World) (h : Ext W4 W) => istart_any va vc A L C hA hC hL0 hL1 W (Rd.ext ra (XW.out.trans h)) (Rd.ext rc (XW.out.trans h)))
 have hex := hidden (fun (W : World) (h : Ext W4 W) (vp : Value) (hp : RdP W vp (usP A L C)) (hu : usE A L C = 0) (ar : List (List Int)) (cx out : List Int) (st inp : Int) (en : Bool) (ma mc : Value) (hM : MemR W ma mc ar cx) (hi : U32 inp) (hm : Mid A ar cx out st fu) =>
  let hr := mid_run (en := en) hC hu hi hm
  iexecute_any va vc vp ma mc (envOf A L C inp en (fu - st)) ar cx hr.2.1 W (Rd.ext ra (XW.out.trans h)) (Rd.ext rc (XW.out.trans h)) hp hM hr.2.2.1 _ _ hr.2.2.2.choose_spec)
 have hrR := hidden (show feedR A L C D fu = if usE A L C ≠ 0 then .error (usE A L C) else if 65536 < D.length then .error 5 else if 0 ≤ fu ∧ fu ≤ 281474976710656 then feedF A L C D fu (D.length + 1) 0 (zerosA A) (List.replicate 16 0) [] 0 else .error 2 from rfl)
 generalize feedR A L C D fu = R at *
 have rdI := hidden rd
 obtain ⟨aa, ca, rfl, -⟩ := Rd.shape ra
 obtain ⟨ac, cc, rfl, -⟩ := Rd.shape rc
 obtain ⟨ad, cd, rfl, hcd, hcd2, -⟩ := Rd.shape rd
 have hCI := hidden hC
 have hDI := hidden hD
 clear ra rc rd hA hC hD
 generalize hue : usE A L C = ue at *
 generalize hup : usP A L C = up at *
 generalize hla : A.length = la at *
 generalize hlc : C.length = lc at *
 generalize hn : D.length = n at *
 replace hue := hidden hue
 replace hup := hidden hup
 replace hla := hidden hla
 replace hlc := hidden hlc
 replace hn := hidden hn
 go_enter Tryz.func22, Tryz.ntmps22
 go_wp2_with fail
 rw [hW.out]
 refine hus.out.mono ?_
 rintro x w1 ⟨vp, rfl, hO, hX1⟩
 have q0 := hX1.cell p0
 have q1 := hX1.cell p1
 have q2 := hX1.cell p2
 have hOI := hidden hO
 have hX1I := hidden hX1
 clear p0 p1 p2 hO hX1 hus
 by_cases hu0 : ue = 0
 ·subst hu0
  by_cases hn6 : 65536 < n
  ·have hn6' : (65536 : Int) < (n : Int) := by omega
   replace hn6 := hidden hn6
   have B4 := P4I.out.ext hX1I.out
   obtain ⟨f0, f1, f2, f3⟩ := B4.fz4
   obtain ⟨g0, g1, g2, g3⟩ := B4.c4
   have B4I := hidden B4
   clear B4
   go_wp2_with fail
   have B5 := set4_blk B4I.out (.slice none 0 0) (.slice none 0 0) (.slice none 0 0) (.int .i64 0)
   obtain ⟨z0, z1, z2, z3⟩ := B5.c4
   refine bodyPost_ret (v := .tuple #[.agg #[.slice none 0 0, .slice none 0 0, .slice none 0 0, .int .i64 0], .int .i64 5]) (by simp [results, Tryz.results22, go_sem, z0, z1, z2, z3]) rfl ?_
   rw [hrR.out, if_neg (by simp), if_pos hn6.out]
   exact ⟨rfl, set4_ext (XW.out.trans hX1I.out) (by omega) _ _ _ _⟩
  ·have hn6' : ¬ (65536 : Int) < (n : Int) := by omega
   go_wp2_with fail
   refine (hir.out w1).mono ?_
   rintro x w3 ⟨rfl, hw3⟩
   subst hw3
   by_cases hfu : 0 ≤ fu ∧ fu ≤ 281474976710656
   ·rw [decide_eq_true hfu.1, decide_eq_true hfu.2, Bool.and_self]
    have hRR : Hid (feedF A L C D fu (n + 1) 0 (zerosA A) (List.replicate 16 0) [] 0 = R) := hidden (by rw [hrR.out, if_neg (by simp), if_neg hn6, if_pos hfu])
    have hfm := (usE_ok hue.out).1
    obtain ⟨-, fAs, -, -, -⟩ := formE_ok hfm
    have hmid0 := hidden (mid_start (fu := fu) fAs hfu.1 hfu.2)
    have hX8 := (Ext.refl w3).alloc (.cells #[.slice none 0 0, .slice none 0 0, .slice none 0 0, .int .i64 0] 48)
    have hs := hst.out _ (hX1I.out.trans hX8)
    rw [show ∀ W, StartP W A L C = fun x w' => ∃ va vc, x = .returned (.tuple #[.agg #[va, vc], .int .i64 0]) ∧ MemO w' W.heap.size va vc (zerosA A) (List.replicate 16 0) ∧ Ext W w' from fun W => by funext x w'; unfold StartP; rw [if_pos hfm]] at hs
    obtain ⟨z, hz⟩ := ex w3.heap.size
    have Z8 := blk_at1 w3 [.slice none 0 0, .slice none 0 0, .slice none 0 0, .int .i64 0] 48 z hz
    have hz8 : (w3.alloc (.cells #[.slice none 0 0, .slice none 0 0, .slice none 0 0, .int .i64 0] 48)).heap.size = z + 1 := by rw [← hz]; exact Array.size_push ..
    rw [hz8] at hs
    obtain ⟨W8, hW8⟩ := ex (w3.alloc (.cells #[.slice none 0 0, .slice none 0 0, .slice none 0 0, .int .i64 0] 48))
    rw [show (w3.alloc (.cells ([.slice none 0 0, .slice none 0 0, .slice none 0 0, .int .i64 0] : List Value).toArray 48)) = W8 from hW8] at Z8
    rw [hW8] at hX8 hs hz8
    have r0 := hX8.cell q0
    have r1 := hX8.cell q1
    have r2 := hX8.cell q2
    have hX8I := hidden hX8
    replace hW8 := hidden hW8
    replace hs := hidden hs
    replace fAs := hidden fAs
    replace hfm := hidden hfm
    have hzI := hidden hz
    replace hst := hidden hst
    clear q0 q1 q2 hX8
    go_upto_region 9 with fail
    rw [hW8.out]
    go_wp2_with fail
    refine hs.out.mono ?_
    rintro x w5 ⟨va', vc', rfl, hMO, hX5⟩
    have hMO1 := hMO
    obtain ⟨vs', hO1, -, hO2⟩ := hMO1
    replace hO2 : w5.ownsRow (z + 1) 42 1 vc' 16 ((List.replicate 16 (0 : Int)).map (Value.int .u32)) := hO2
    rw [show (zerosA A).length = la by unfold zerosA; rw [List.length_map, hla.out]] at hO1
    obtain ⟨a1, c1', rfl, -⟩ := own_shape hO1
    obtain ⟨a2, c2', rfl, -⟩ := own_shape hO2
    clear hO1 hO2
    have Z5 := Z8.ext hX5
    obtain ⟨y0, y1, y2, y3⟩ := Z5.c4
    obtain ⟨x0, x1⟩ := Z5.fz2
    have t0 := hX5.cell r0
    have t1 := hX5.cell r1
    have t2 := hX5.cell r2
    have Z5I := hidden Z5
    have hMOI := hidden hMO
    have hX5I := hidden (hX8I.out.trans hX5)
    have hn1w : IntKind.i64.wrap ((n : Int) + 1) = (n : Int) + 1 := IntWalk.i64_in _ (by omega)
    clear r0 r1 r2 hMO hX5 Z5 Z8 hs
    have hws : Hid (w5.heap.size ≤ ((w5.setCell ⟨z, 0, none⟩ (.slice a1 la c1')).setCell ⟨z, 1, none⟩ (.slice a2 16 c2')).heap.size) := hidden (by simp [World.setCell])
    have hcz : Chg [z] w5 ((w5.setCell ⟨z, 0, none⟩ (.slice a1 la c1')).setCell ⟨z, 1, none⟩ (.slice a2 16 c2')) := ((Chg.refl _ _).setCell (p := ⟨z, 0, none⟩) (Or.inl (by simp)) _).setCell (p := ⟨z, 1, none⟩) (Or.inl (by simp)) _
    have hB6 := hidden ((Z5I.out.set 0 (.slice a1 la c1')).set 1 (.slice a2 16 c2'))
    have hM6 := hidden (hMOI.out.chg hcz (fun x hx => by rw [List.mem_singleton.1 hx]; omega))
    have hE6 := hidden (hX5I.out.setCell (p := ⟨z, 0, none⟩) (Nat.le_of_eq hzI.out) (.slice a1 la c1') |>.setCell (p := ⟨z, 1, none⟩) (Nat.le_of_eq hzI.out) (.slice a2 16 c2'))
    clear hws hcz
    go_wp2_with fail
    go_loopw [47] (fun ix wr => ∃ k : Nat, k ≤ n + 1 ∧ ix = .int .i64 (k : Int) ∧ ∃ (ar : List (List Int)) (cx out : List Int) (st : Int) (e1 e2 e3 : Option Addr) (d1 d2 d3 : Nat), Hid (Mid A ar cx out st fu) ∧ Hid (feedF A L C D fu (n + 1 - k) k ar cx out st = R) ∧ Hid (Blk wr z 48 [.slice e1 ar.length d1, .slice e2 cx.length d2, .slice e3 out.length d3, .int .i64 st]) ∧ Hid (MemO wr (z + 1) (.slice e1 ar.length d1) (.slice e2 cx.length d2) ar cx) ∧ Hid (wr.ownsRow (z + 1) 5 1 (.slice e3 out.length d3) out.length (out.map (Value.int .u8))) ∧ Hid (Ext w3 wr)) (fun ix _ => (n + 1 - intOf ix).toNat)
    case atStart =>
     refine ⟨0, by omega, rfl, zerosA A, List.replicate 16 0, [], 0, a1, a2, none, c1', c2', 0, hmid0, hRR, ?_, ?_, hidden (World.ownsRow_nil _ _ _ _), hE6⟩
     ·rw [show (zerosA A).length = la by unfold zerosA; rw [List.length_map, hla.out]]; exact hB6
     ·rw [show (zerosA A).length = la by unfold zerosA; rw [List.length_map, hla.out]]; exact hM6
    case round =>
     obtain ⟨k, hk, rfl, ar, cx, out, st, e1, e2, e3, d1, d2, d3, hmid, hfd, hB, hM, hO, hE⟩ := hrel
     have hEW := hX1I.out.trans hE.out
     have PB := P1I.out.ext hEW
     obtain ⟨u0, u1, u2⟩ := PB.c3
     obtain ⟨y0, y1, y2, y3⟩ := hB.out.c4
     replace hEW := hidden hEW
     clear PB
     by_cases hlt : k < n + 1
     ·have hlt' : (k : Int) < (n : Int) + 1 := by omega
      have hs0 := hmid.out.s0
      have hs1 := hmid.out.s1
      have hfb := hmid.out.f1
      have hsw : IntKind.i64.wrap (fu - st) = fu - st := IntWalk.i64_in _ (by omega)
      obtain ⟨en, hen⟩ := ex (((k : Int) == (n : Int)))
      have hen2 : en = decide (k = n) := by rw [← hen]; by_cases h : k = n <;> simp [h]; omega
      replace hen2 := hidden hen2
      have XC := (Ext.refl wr).alloc (.cells #[.int .u32 0, .bool en, .int .i64 (fu - st)] 44)
      obtain ⟨c, hc⟩ := ex wr.heap.size
      have NC := blk_at1 wr [.int .u32 0, .bool en, .int .i64 (fu - st)] 44 c hc
      obtain ⟨m0, m1, m2⟩ := NC.c3
      have l0 := NC.frozen 0
      have NCI := hidden NC
      have XCI := hidden XC
      clear NC XC
      go_upto_if 61 with fail
      obtain ⟨W6, hW6⟩ := ex (wr.alloc (.cells #[.int .u32 0, .bool en, .int .i64 (fu - st)] 44))
      have NC := NCI.out
      have XC := XCI.out
      rw [show (wr.alloc (.cells ([.int .u32 0, .bool en, .int .i64 (fu - st)] : List Value).toArray 44)) = W6 from hW6] at NC m0 m1 m2 l0
      rw [hW6] at XC ⊢
      clear hW6 XCI NCI u0 u1 u2 y0 y1 y2 y3
      replace XC := hidden XC
      replace NC := hidden NC
      go_cut [12] from 62 to 67 (fun s12 wx => s12 = .pointer (some ⟨c, 0, none⟩) ∧ ∃ (WC : World) (x : Int), wx = WC ∧ Hid ((if k < D.length then D.getD k 0 else 0) = x) ∧ Hid (U32 x) ∧ Hid (Ext wr WC) ∧ Hid (Blk WC c 44 [.int .u32 x, .bool en, .int .i64 (fu - st)]))
      case first => as_aux_lemma =>
       by_cases hkn : k < n
       ·have he : en = false := by rw [hen2.out]; simp; omega
        subst he
        obtain ⟨x, hxk⟩ : ∃ x, D[k]? = some x := ⟨_, List.getElem?_eq_getElem (by rw [hn.out]; exact hkn)⟩
        obtain ⟨hx0, hx1⟩ := hDI.out x (List.mem_of_getElem? hxk)
        obtain ⟨bd, od, rfl, -, -⟩ := Rd.cells (cs := D.map (Value.int .u8)) (w := w) (sz := 1) rdI.out (show 0 < n by omega)
        have dk := ((XW.out.trans hEW.out).trans XC.out).cell (rd_at rdI.out k (.int .u8 x) (by rw [List.getElem?_map, hxk]; rfl))
        have hxw : IntKind.u32.wrap x = x := by rw [IntKind.wrap_u32]; omega
        have hkn' : (k : Int) < (n : Int) := by omega
        have hxkI := hidden hxk
        clear hxk hen
        go_wp2_with fail
        go_meet
        exact ⟨rfl, _, x, rfl, hidden (by rw [if_pos (show k < D.length by rw [hn.out]; exact hkn), List.getD_eq_getElem?_getD, hxkI.out]; rfl), hidden ⟨hx0, by omega⟩, hidden (XC.out.setCell (p := ⟨c, 0, none⟩) (Nat.le_of_eq hc) _), hidden (NC.out.set 0 (.int .u32 x))⟩
       ·have he : en = true := by rw [hen2.out]; simp; omega
        subst he
        clear hen
        go_wp2_with fail
        go_meet
        exact ⟨rfl, _, 0, rfl, hidden (if_neg (by rw [hn.out]; omega)), hidden ⟨by omega, by omega⟩, XC, NC⟩
      case rest => as_aux_lemma =>
       obtain ⟨rfl, WC, x, hwc, hxI, hiUI, XC2, NC2⟩ := hcut
       rw [hwc]
       clear hwc m0 m1 m2 l0 XC NC
       have XC := XC2.out
       have NC := NC2.out
       have hiU := hiUI.out
       clear XC2 NC2 hen
       have PB := P1I.out.ext (hEW.out.trans XC)
       obtain ⟨v0, v1, v2⟩ := PB.c3
       have ZB := hB.out.ext XC
       obtain ⟨o0, o1, o2, o3⟩ := ZB.c4
       obtain ⟨m0, m1, m2⟩ := NC.c3
       clear PB ZB NC
       have hmr := mid_run (L := L) (en := en) (inp := x) hCI.out hue.out hiU hmid.out
       have hfd2 := hfd.out
       rw [show n + 1 - k = (n - k) + 1 by omega] at hfd2
       unfold feedF at hfd2
       rw [hxI.out, show decide (k = D.length) = en by rw [hn.out, hen2.out], hmr.1] at hfd2
       obtain ⟨nr, hnr⟩ := hmr.2.2.2
       have hcall := hex.out WC (hEW.out.trans XC) vp (Rd.of_own (own_ext hOI.out (hE.out.trans XC))) (by trivial) ar cx out st x en _ _ (hM.out.read.ext XC) hiU hmid.out
       obtain ⟨RF, hRF⟩ := ex (runF (envOf A L C x en (fu - st)) (startS (envOf A L C x en (fu - st)) ar cx))
       rw [hRF] at hfd2 hnr hcall
       obtain ⟨EV, hEV⟩ := ex (envOf A L C x en (fu - st))
       have hL1' : EV.L = L := by rw [← hEV]; rfl
       have hL2' : EV.inp = x := by rw [← hEV]; rfl
       have hL3' : EV.ended = en := by rw [← hEV]; rfl
       have hL4' : EV.fuel = fu - st := by rw [← hEV]; rfl
       rw [hEV, hL1', hL2', hL3', hL4'] at hcall
       replace hcall := hidden hcall
       replace hfd2 := hidden hfd2
       replace hnr := hidden hnr
       replace hEV := hidden hEV
       have XCI := hidden XC
       clear hmr hRF hL1' hL2' hL3' hL4' XC
       go_wp2_with fail
       refine hcall.out.mono ?_
       clear hcall
       intro y w7 hP
       clear v0 v1 v2 o0 o1 o2 o3 m0 m1 m2
       cases RF with
       | error e =>
        obtain ⟨rfl, hX7⟩ := hP
        have hRe : R = .error e := hfd2.out.symm
        have he0 : e ≠ 0 := ne0_run _ _ hnr.out
        have XG := hE.out.trans (XCI.out.trans (hX7.trans ((Ext.refl w7).alloc (.cells #[.slice none 0 0, .slice none 0 0, .slice none 0 0, .int .i64 0] 48))))
        have hX7I := hidden hX7
        replace hRe := hidden hRe
        replace he0 := hidden he0
        have he0' := he0.out
        clear hX7
        have B4 := P4I.out.ext (hX1I.out.trans XG)
        obtain ⟨f0, f1, f2, f3⟩ := B4.fz4
        obtain ⟨g0, g1, g2, g3⟩ := B4.c4
        have B4I := hidden B4
        clear B4
        have XGI := hidden XG
        clear XG
        go_wp2_with fail
        have B5 := set4_blk B4I.out (.slice none 0 0) (.slice none 0 0) (.slice none 0 0) (.int .i64 0)
        obtain ⟨z0, z1, z2, z3⟩ := B5.c4
        refine bodyPost_ret (v := .tuple #[.agg #[.slice none 0 0, .slice none 0 0, .slice none 0 0, .int .i64 0], .int .i64 e]) (by simp [results, Tryz.results22, go_sem, z0, z1, z2, z3]) rfl ?_
        rw [hRe.out]
        exact ⟨rfl, set4_ext (XW.out.trans (hX1I.out.trans XGI.out)) (by omega) _ _ _ _⟩
       | ok r =>
        obtain ⟨ar', cx', out', st'⟩ := r
        obtain ⟨va', vc', vo', s', rfl, hMO, hO', hS', rfl, rfl, rfl, rfl, hX7⟩ := hP
        have hMO1 := hMO
        obtain ⟨vs', hO1, -, hO2⟩ := hMO1
        replace hO2 : w7.ownsRow WC.heap.size 42 1 vc' s'.cx.length (s'.cx.map (Value.int .u32)) := hO2
        obtain ⟨f1, g1', rfl, -⟩ := own_shape hO1
        obtain ⟨f2, g2', rfl, -⟩ := own_shape hO2
        obtain ⟨f3, g3', rfl, -⟩ := own_shape hO'
        clear hO1 hO2
        obtain ⟨j1, hj1⟩ := ex s'.ar.length
        obtain ⟨j2, hj2⟩ := ex s'.cx.length
        obtain ⟨j3, hj3⟩ := ex s'.out.length
        obtain ⟨j4, hj4⟩ := ex s'.steps
        rw [hj1, hj2] at hMO ⊢
        rw [hj3] at hO' ⊢
        rw [hj4] at hfd2 hnr ⊢
        obtain ⟨g, hg⟩ := ex w7.heap.size
        have G8 := blk_at1 w7 [.slice f1 j1 g1', .slice f2 j2 g2', .slice f3 j3 g3', .int .i64 j4] 48 g hg
        have X8 := (Ext.refl w7).alloc (.cells #[.slice f1 j1 g1', .slice f2 j2 g2', .slice f3 j3 g3', .int .i64 j4] 48)
        have Z8 := hB.out.ext (XCI.out.trans (hX7.trans X8))
        have MO8 := hidden (hMO.chg (Chg.of_ext [] X8) (by simp))
        have O8 := hidden (own_ext hO' X8)
        have E8 := hidden (hE.out.trans (XCI.out.trans (hX7.trans X8)))
        have Oz8 := hidden (own_ext hO.out (XCI.out.trans (hX7.trans X8)))
        have hzWC := (hB.out.ext XCI.out).lt
        have hWC7 := hX7.size
        have hsI := hidden hS'
        replace hzWC := hidden hzWC
        replace hWC7 := hidden hWC7
        have hgI := hidden hg
        have hj1I := hidden hj1
        have hj2I := hidden hj2
        have hj3I := hidden hj3
        have hj4I := hidden hj4
        obtain ⟨o0, o1, o2, o3⟩ := Z8.c4
        obtain ⟨m0, m1, m2, m3⟩ := G8.c4
        replace Z8 := hidden Z8
        replace G8 := hidden G8
        clear hMO hO' X8 hX7 hS' hj1 hj2 hj3 hj4
        have hst4 : IntKind.i64.wrap (st + j4) = st + j4 := by
         have a1 := hsI.out.s0
         have a2 := hsI.out.s1
         rw [hj4I.out] at a1 a2
         exact IntWalk.i64_in _ (by omega)
        have hol := hmid.out.ol
        have hj3b : j3 ≤ 65536 := by rw [← hj3I.out]; exact hsI.out.out
        go_upto_region 21 with fail
        obtain ⟨W8, hW8'⟩ := ex (w7.alloc (.cells #[.slice f1 j1 g1', .slice f2 j2 g2', .slice f3 j3 g3', .int .i64 j4] 48))
        rw [show (w7.alloc (.cells ([.slice f1 j1 g1', .slice f2 j2 g2', .slice f3 j3 g3', .int .i64 j4] : List Value).toArray 48)) = W8 from hW8'] at G8 m0 m1 m2 m3
        rw [hW8'] at MO8 O8 E8 Oz8 Z8 o0 o1 o2 o3 ⊢
        clear hW8'
        have hz8b := hidden (show z + 1 ≤ W8.drew.heap.size from Z8.out.lt)
        refine feed21 _ _ _ _ _ _ _ _ _ _ _ _ _ _ _ _ _ _ _ _ _ _ _ _ _ _ _ _ _ _ _ _ _ _ _ _ _ _ _ _ _ _ _ _ _ _ _ _ _ _ _ _ _ _ _ _ _ _ _ _ _ _ _ _ _ _ _ _ _ _ _ _ _ _ _ _ _ _ _ _ _ _ _ _ _ _ _ _ _ _ _ _ _ _ _ _ _ _ _ (fun _ _ _ _ _ h => h) Z8 G8 Oz8 (hidden (Rd.of_own O8.out)) (by simp [Value.oneCell']) hol hj3b hst4 ?_
        intro a9 c9 w9 hown9 hgrow9 hat9 Z9
        have c90 : Chg (Value.slice e3 out.length d3).ownBlock.toList W8.drew w9 := (Chg.refl _ _).grown hgrow9 (fun k hk => Or.inl (by simp [hk]))
        show _
        have Z10 := set4_blk Z9 (.slice f1 j1 g1') (.slice f2 j2 g2') (.slice a9 (out.length + j3) c9) (.int .i64 (st + j4))
        have C10 := set4_chg (w := w9) (z := z) (.slice f1 j1 g1') (.slice f2 j2 g2') (.slice a9 (out.length + j3) c9) (.int .i64 (st + j4))
        have M10 := hidden (((MO8.out.chg ((Chg.of_ext [] (Ext.refl W8).drew)) (by simp)).chg c90 (fun x hx => by have h1 := (own_lt hO.out (show (Value.slice e3 out.length d3).ownBlock = some x by simpa using hx)).2; have h2 := XCI.out.size; omega)).chg C10 (fun x hx => by rw [List.mem_singleton.1 hx]; exact hzWC.out))
        have O10 := hidden (own_low hown9 C10 (fun x hx => by rw [List.mem_singleton.1 hx]; omega))
        have E9 : Ext w3 w9 := ((Chg.of_ext [] (E8.out.trans (Ext.refl W8).drew)).grown hgrow9 (fun k hk => Or.inr (by have h1 := (own_lt Oz8.out hk).1; have h2 := hzI.out; omega))).ext
        have E10 := hidden (set4_ext E9 (Nat.le_of_eq hzI.out) (.slice f1 j1 g1') (.slice f2 j2 g2') (.slice a9 (out.length + j3) c9) (.int .i64 (st + j4)))
        clear Z9 C10 E9 hown9 hgrow9 hat9 c90 o0 o1 o2 o3 m0 m1 m2 m3
        obtain ⟨w10, hw10⟩ := ex (((((w9.setCell ⟨z, 0, none⟩ (.slice f1 j1 g1')).setCell ⟨z, 1, none⟩ (.slice f2 j2 g2')).setCell ⟨z, 2, none⟩ (.slice a9 (out.length + j3) c9)).setCell ⟨z, 3, none⟩ (.int .i64 (st + j4))))
        rw [hw10] at Z10 M10 O10 E10 ⊢
        clear hw10
        have o2 := Z10.cell 2 _ rfl
        have Z10I := hidden Z10
        clear Z10
        have hM10 := hidden (M10.out.base (show z + 1 ≤ WC.heap.size from hzWC.out))
        by_cases hl : 65536 < out.length + j3
        ·have hl' : (65536 : Int) < ((out.length + j3 : Nat) : Int) := by omega
         have hRe : Hid (R = .error 5) := hidden (by have := hfd2.out; rw [if_pos (by rw [List.length_append, hj3I.out]; exact hl)] at this; exact this.symm)
         have XG := E10.out
         have B4 := P4I.out.ext (hX1I.out.trans XG)
         obtain ⟨f0, f1, f2, f3⟩ := B4.fz4
         obtain ⟨g0, g1, g2, g3⟩ := B4.c4
         have B4I := hidden B4
         clear B4
         have XGI := hidden XG
         clear XG
         go_wp2_with fail
         have B5 := set4_blk B4I.out (.slice none 0 0) (.slice none 0 0) (.slice none 0 0) (.int .i64 0)
         obtain ⟨z0, z1, z2, z3⟩ := B5.c4
         refine bodyPost_ret (v := .tuple #[.agg #[.slice none 0 0, .slice none 0 0, .slice none 0 0, .int .i64 0], .int .i64 5]) (by simp [results, Tryz.results22, go_sem, z0, z1, z2, z3]) rfl ?_
         rw [hRe.out]
         exact ⟨rfl, set4_ext (XW.out.trans (hX1I.out.trans XGI.out)) (by omega) _ _ _ _⟩
        ·have hl' : ¬ (65536 : Int) < ((out.length + j3 : Nat) : Int) := by omega
         have hll : (out ++ s'.out).length = out.length + j3 := by rw [List.length_append, hj3I.out]
         have hfd3 : Hid (feedF A L C D fu (n + 1 - (k + 1)) (k + 1) s'.ar s'.cx (out ++ s'.out) (st + j4) = R) := hidden (by have := hfd2.out; rw [if_neg (by rw [hll]; exact hl)] at this; rw [show n + 1 - (k + 1) = n - k by omega]; exact this)
         have hmid2 : Hid (Mid A s'.ar s'.cx (out ++ s'.out) (st + j4) fu) := hidden (by
          have hr := hnr.out
          have hsE := hsI.out
          rw [← hEV.out] at hsE
          rw [← hj4I.out] at hr ⊢
          exact mid_next hCI.out hue.out hiU hmid.out hr hsE (by rw [hll]; omega))
         have hrel : Hid (Blk w10 z 48 [.slice f1 s'.ar.length g1', .slice f2 s'.cx.length g2', .slice a9 (out ++ s'.out).length c9, .int .i64 (st + j4)]) := hidden (by rw [hj1I.out, hj2I.out, hll]; exact Z10I.out)
         have hrelM : Hid (MemO w10 (z + 1) (.slice f1 s'.ar.length g1') (.slice f2 s'.cx.length g2') s'.ar s'.cx) := hidden (by rw [hj1I.out, hj2I.out]; exact hM10.out)
         have hrelO : Hid (w10.ownsRow (z + 1) 5 1 (.slice a9 (out ++ s'.out).length c9) (out ++ s'.out).length ((out ++ s'.out).map (Value.int .u8))) := hidden (by rw [hll, List.map_append]; exact O10.out)
         go_wp2_with fail
         go_roundw
         case rel => exact ⟨k + 1, by omega, by go_num, s'.ar, s'.cx, out ++ s'.out, st + j4, f1, f2, a9, g1', g2', c9, hmid2, hfd3, hrel, hrelM, hrelO, E10⟩
         case measure => simp [intOf]; omega
     ·have hlt' : ¬ (k : Int) < (n : Int) + 1 := by omega
      obtain rfl : k = n + 1 := by omega
      have hRe : R = .ok (ar, cx, out, st) := by
       have := hfd.out
       rw [Nat.sub_self] at this
       exact this.symm
      replace hRe := hidden hRe
      have B4 := P4I.out.ext hEW.out
      obtain ⟨f0, f1, f2, f3⟩ := B4.fz4
      obtain ⟨g0, g1, g2, g3⟩ := B4.c4
      have B4I := hidden B4
      clear B4
      go_wp2_with fail
      have B5 := set4_blk B4I.out (.slice e1 ar.length d1) (.slice e2 cx.length d2) (.slice e3 out.length d3) (.int .i64 st)
      have C5 := set4_chg (w := wr) (z := b + 1) (.slice e1 ar.length d1) (.slice e2 cx.length d2) (.slice e3 out.length d3) (.int .i64 st)
      obtain ⟨z0, z1, z2, z3⟩ := B5.c4
      refine bodyPost_ret (v := .tuple #[.agg #[.slice e1 ar.length d1, .slice e2 cx.length d2, .slice e3 out.length d3, .int .i64 st], .int .i64 0]) (by simp [results, Tryz.results22, go_sem, z0, z1, z2, z3]) rfl ?_
      rw [hRe.out]
      have k1 := hX1I.out.size
      have k2 := hzI.out
      exact ⟨_, _, _, rfl, (hM.out.chg C5 (fun x hx => by rw [List.mem_singleton.1 hx]; omega)).read, Rd.of_own (own_low hO.out C5 (fun x hx => by rw [List.mem_singleton.1 hx]; omega)), set4_ext (XW.out.trans hEW.out) (by omega) _ _ _ _⟩
   ·have hfd : (decide (0 ≤ fu) && decide (fu ≤ 281474976710656)) = false := by
     rcases Decidable.not_and_iff_or_not.1 hfu with h | h
     ·rw [decide_eq_false h]; rfl
     ·rw [decide_eq_false h, Bool.and_false]
    rw [hfd]
    replace hfu := hidden hfu
    replace hn6 := hidden hn6
    have B4 := P4I.out.ext hX1I.out
    obtain ⟨f0, f1, f2, f3⟩ := B4.fz4
    obtain ⟨g0, g1, g2, g3⟩ := B4.c4
    have B4I := hidden B4
    clear B4
    go_wp2_with fail
    have B5 := set4_blk B4I.out (.slice none 0 0) (.slice none 0 0) (.slice none 0 0) (.int .i64 0)
    obtain ⟨z0, z1, z2, z3⟩ := B5.c4
    refine bodyPost_ret (v := .tuple #[.agg #[.slice none 0 0, .slice none 0 0, .slice none 0 0, .int .i64 0], .int .i64 2]) (by simp [results, Tryz.results22, go_sem, z0, z1, z2, z3]) rfl ?_
    rw [hrR.out, if_neg (by simp), if_neg hn6.out, if_neg hfu.out]
    exact ⟨rfl, set4_ext (XW.out.trans hX1I.out) (by omega) _ _ _ _⟩
 ·replace hu0 := hidden hu0
  have hu0' := hu0.out
  have B4 := P4I.out.ext hX1I.out
  obtain ⟨f0, f1, f2, f3⟩ := B4.fz4
  obtain ⟨g0, g1, g2, g3⟩ := B4.c4
  have B4I := hidden B4
  clear B4
  go_wp2_with fail
  have B5 := set4_blk B4I.out (.slice none 0 0) (.slice none 0 0) (.slice none 0 0) (.int .i64 0)
  obtain ⟨z0, z1, z2, z3⟩ := B5.c4
  refine bodyPost_ret (v := .tuple #[.agg #[.slice none 0 0, .slice none 0 0, .slice none 0 0, .int .i64 0], .int .i64 ue]) (by simp [results, Tryz.results22, go_sem, z0, z1, z2, z3]) rfl ?_
  rw [hrR.out, if_pos hu0.out]
  exact ⟨rfl, set4_ext (XW.out.trans hX1I.out) (by omega) _ _ _ _⟩
end Go.Proofs.YtgjjklajipekdaaGreat
