
import Derived.Test.YtgjjklajipekdaaGreatZt
import Derived.Test.YtgjjklajipekdaaGreatYza
namespace Go.Proofs.YtgjjklajipekdaaGreat
set_option maxHeartbeats 16000000
set_option maxRecDepth 100000
open Go.RowKit
set_option linter.unusedVariables false
set_option linter.unusedSimpArgs false
attribute [local go_sem ↓] Go.wp_at_zero Go.wp_at_succ
theorem rfeed21 {Q : Exit → Act → World → Prop} {W : World} {z g n3 d3 j1 j2 j3 : Nat} {g1' g2' g3' : Nat} {e3 f1 f2 f3 : Option Addr} {st j4 : Int} {v0 v1 : Value} {xs news : List Value} (t0 t1 t2 t3 t4 t5 t6 t7 t8 t9 t10 t11 t13 t14 t16 t17 t18 t19 t20 t21 t22 t23 t24 t25 t26 t27 t28 t29 t30 t31 t32 t33 t34 t35 t36 t37 t38 t39 t40 t41 t42 t43 t44 t45 t46 t47 t48 t49 t50 t51 t52 t53 t54 t55 t56 t57 t58 t59 t60 t61 t62 t63 t64 t65 t66 t67 t68 t69 t70 t71 t72 t73 t74 t75 t76 t77 t78 t79 t80 t81 t82 t83 t84 t85 t86 t87 t88 t89 t90 t91 t92 t93 t94 t95 t96 t97 t98 t99 t100 t101 t102 t103 t104 : Value)
  (hQ : ∀ (d : Tmp) {c : List PanicEntry} {a : Act} {v : Value} {w : World}, Q (.panic c) (a.put (some d) v) w → Q (.panic c) a w)
  (Z8 : Hid (Blk W z 48 [v0, v1, .slice e3 n3 d3, .int .i64 st])) (G8 : Hid (Blk W g 48 [.slice f1 j1 g1', .slice f2 j2 g2', .slice f3 j3 g3', .int .i64 j4]))
  (Oz : Hid (W.ownsRow (z + 1) 5 1 (.slice e3 n3 d3) n3 xs)) (hnews : Hid (Rd W 1 (.slice f3 j3 g3') j3 news)) (hone : ∀ u ∈ news, u.oneCell' = true) (hn3 : n3 ≤ 65536) (hj3 : j3 ≤ 65536) (hst4 : IntKind.i64.wrap (st + j4) = st + j4)
  (hk : ∀ (a9 : Option Addr) (c9 : Nat) (w9 : World), w9.ownsRow (z + 1) 5 1 (.slice a9 (n3 + j3) c9) (n3 + j3) (xs ++ news) → W.drew.grownBy w9 (Value.slice e3 n3 d3).ownBlock → ((Value.slice a9 (n3 + j3) c9).ownBlock = (Value.slice e3 n3 d3).ownBlock ∨ (Value.slice a9 (n3 + j3) c9).ownBlock = some W.drew.heap.size) → Blk w9 z 48 [v0, v1, .slice e3 n3 d3, .int .i64 st] →
   Q .normal { tmps := #[t0, t1, t2, t3, t4, t5, t6, t7, t8, t9, t10, t11, .pointer (some ⟨z, 0, none⟩), t13, t14, .pointer (some ⟨g, 0, none⟩), t16, t17, t18, t19, t20, t21, t22, t23, t24, t25, t26, t27, t28, t29, t30, t31, t32, t33, t34, t35, t36, t37, t38, t39, t40, t41, t42, t43, t44, t45, t46, t47, t48, t49, t50, t51, t52, t53, t54, t55, t56, t57, t58, t59, t60, t61, t62, t63, t64, t65, t66, t67, t68, t69, t70, t71, t72, t73, t74, t75, t76, t77, t78, t79, t80, t81, t82, t83, t84, t85, .pointer (some ⟨g, 0, none⟩), .agg #[.slice f1 j1 g1', .slice f2 j2 g2'], .pointer (some ⟨z, 2, none⟩), .slice e3 n3 d3, .pointer (some ⟨g, 2, none⟩), .slice f3 j3 g3', .slice a9 (n3 + j3) c9, .pointer (some ⟨z, 3, none⟩), .int .i64 st, .pointer (some ⟨g, 3, none⟩), .int .i64 j4, .int .i64 (st + j4), .agg #[.slice f1 j1 g1', .slice f2 j2 g2', .slice a9 (n3 + j3) c9, .int .i64 (st + j4)], t99, t100, t101, t102, t103, t104], defers := [] } ((((w9.setCell ⟨z, 0, none⟩ (.slice f1 j1 g1')).setCell ⟨z, 1, none⟩ (.slice f2 j2 g2')).setCell ⟨z, 2, none⟩ (.slice a9 (n3 + j3) c9)).setCell ⟨z, 3, none⟩ (.int .i64 (st + j4)))) :
  (Code.region 21 #[{ dst := some 86, op := Op.fieldAddr 48 (Operand.tmp 15) 0, type := 0, pos := "ref.go:351", after := #[], guard := none }, { dst := some 87, op := Op.load 29 (Operand.tmp 86), type := 29, pos := "ref.go:351", after := #[{ on := 0, ground := Ground.data }], guard := none }, { dst := some 88, op := Op.fieldAddr 48 (Operand.tmp 12) 1, type := 0, pos := "ref.go:351", after := #[], guard := none }, { dst := some 89, op := Op.load 46 (Operand.tmp 88), type := 46, pos := "ref.go:351", after := #[{ on := 2, ground := Ground.data }], guard := none }, { dst := some 90, op := Op.fieldAddr 48 (Operand.tmp 15) 1, type := 0, pos := "ref.go:351", after := #[], guard := none }, { dst := some 91, op := Op.load 46 (Operand.tmp 90), type := 46, pos := "ref.go:351", after := #[{ on := 4, ground := Ground.data }], guard := none }, { dst := some 92, op := Op.call { callee := Callee.builtin Builtin.append, args := #[Operand.tmp 89, Operand.tmp 91], argTypes := #[46, 46] }, type := 46, pos := "ref.go:351", after := #[{ on := 3, ground := Ground.data }, { on := 5, ground := Ground.data }], guard := none }, { dst := some 93, op := Op.fieldAddr 48 (Operand.tmp 12) 2, type := 0, pos := "ref.go:351", after := #[], guard := none }, { dst := some 94, op := Op.load 3 (Operand.tmp 93), type := 3, pos := "ref.go:351", after := #[{ on := 7, ground := Ground.data }], guard := none }, { dst := some 95, op := Op.fieldAddr 48 (Operand.tmp 15) 2, type := 0, pos := "ref.go:351", after := #[], guard := none }, { dst := some 96, op := Op.load 3 (Operand.tmp 95), type := 3, pos := "ref.go:351", after := #[{ on := 9, ground := Ground.data }], guard := none }, { dst := some 97, op := Op.binOp BinOp.add 3 (Operand.tmp 94) (Operand.tmp 96) 3, type := 3, pos := "ref.go:351", after := #[{ on := 8, ground := Ground.data }, { on := 10, ground := Ground.data }], guard := none }, { dst := some 98, op := Op.build 48 #[(0, Operand.tmp 87), (1, Operand.tmp 92), (2, Operand.tmp 97)], type := 48, pos := "ref.go:351", after := #[{ on := 1, ground := Ground.data }, { on := 6, ground := Ground.data }, { on := 11, ground := Ground.data }], guard := none }, { dst := none, op := Op.store 48 (Operand.tmp 12) (Operand.tmp 98), type := 0, pos := "ref.go:351", after := #[{ on := 12, ground := Ground.data }, { on := 6, ground := Ground.chain }, { on := 0, ground := Ground.phase }, { on := 1, ground := Ground.phase }, { on := 2, ground := Ground.phase }, { on := 3, ground := Ground.phase }, { on := 4, ground := Ground.phase }, { on := 5, ground := Ground.phase }, { on := 6, ground := Ground.phase }, { on := 7, ground := Ground.phase }, { on := 8, ground := Ground.phase }, { on := 9, ground := Ground.phase }, { on := 10, ground := Ground.phase }, { on := 11, ground := Ground.phase }, { on := 12, ground := Ground.phase }], guard := none }] true).wp Tryz.prog Q { tmps := #[t0, t1, t2, t3, t4, t5, t6, t7, t8, t9, t10, t11, .pointer (some ⟨z, 0, none⟩), t13, t14, .pointer (some ⟨g, 0, none⟩), t16, t17, t18, t19, t20, t21, t22, t23, t24, t25, t26, t27, t28, t29, t30, t31, t32, t33, t34, t35, t36, t37, t38, t39, t40, t41, t42, t43, t44, t45, t46, t47, t48, t49, t50, t51, t52, t53, t54, t55, t56, t57, t58, t59, t60, t61, t62, t63, t64, t65, t66, t67, t68, t69, t70, t71, t72, t73, t74, t75, t76, t77, t78, t79, t80, t81, t82, t83, t84, t85, t86, t87, t88, t89, t90, t91, t92, t93, t94, t95, t96, t97, t98, t99, t100, t101, t102, t103, t104], defers := [] } W := by
 obtain ⟨i1, hi1, hy0, hy1, hy2⟩ := info_parts u8_info
 have hib := hidden hi1
 have o2 := Z8.out.cell 2 _ rfl
 have o3 := Z8.out.cell 3 _ rfl
 obtain ⟨m0, m1, m2, m3⟩ := G8.out.c4
 have hzb : z + 1 ≤ W.drew.heap.size := Z8.out.lt
 refine wp_region_D (S := fun w' => w'.cell? ⟨z, 2, none⟩ = some (.slice e3 n3 d3) ∧ w'.cell? ⟨z, 3, none⟩ = some (.int .i64 st) ∧ w'.cell? ⟨g, 0, none⟩ = some (.slice f1 j1 g1') ∧ w'.cell? ⟨g, 1, none⟩ = some (.slice f2 j2 g2') ∧ w'.cell? ⟨g, 2, none⟩ = some (.slice f3 j3 g3') ∧ w'.cell? ⟨g, 3, none⟩ = some (.int .i64 j4)) (D := [13]) (by kernel_rfl) ⟨o2, o3, m0, m1, m2, m3⟩ (fun HS => ?_)
 refine tkq 0 [1, 12, 13] (.pointer (some ⟨g, 0, none⟩)) rfl (fun _ _ _ h => hQ 86 h) HS ?_; try simp only [sx]
 refine tkq 1 [12, 13] (.agg #[.slice f1 j1 g1', .slice f2 j2 g2']) rfl (fun _ _ _ h => hQ 87 h) HS ?_; try simp only [sx]
 refine tkq 2 [3, 6, 12, 13] (.pointer (some ⟨z, 2, none⟩)) rfl (fun _ _ _ h => hQ 88 h) HS ?_; try simp only [sx]
 refine tkq 3 [6, 12, 13] (.slice e3 n3 d3) rfl (fun _ _ _ h => hQ 89 h) HS ?_; try simp only [sx]
 refine tkq 4 [5, 6, 12, 13] (.pointer (some ⟨g, 2, none⟩)) rfl (fun _ _ _ h => hQ 90 h) HS ?_; try simp only [sx]
 refine tkq 5 [6, 12, 13] (.slice f3 j3 g3') rfl (fun _ _ _ h => hQ 91 h) HS ?_; try simp only [sx]
 refine tkq 7 [8, 11, 12, 13] (.pointer (some ⟨z, 3, none⟩)) rfl (fun _ _ _ h => hQ 93 h) HS ?_; try simp only [sx]
 refine tkq 8 [11, 12, 13] (.int .i64 st) rfl (fun _ _ _ h => hQ 94 h) HS ?_; try simp only [sx]
 refine tkq 9 [10, 11, 12, 13] (.pointer (some ⟨g, 3, none⟩)) rfl (fun _ _ _ h => hQ 95 h) HS ?_; try simp only [sx]
 refine tkq 10 [11, 12, 13] (.int .i64 j4) rfl (fun _ _ _ h => hQ 96 h) HS ?_; try simp only [sx]
 refine tkq 11 [12, 13] (.int .i64 (st + j4)) rfl (fun _ _ _ h => hQ 97 h) HS ?_; try simp only [sx]
 refine appendD0 6 rfl rfl rfl (by kernel_rfl) _ _ 46 (by rfl) (z + 1) 5 i1 (.int .u8 0) 1 1 Tryz.underlying46 hib.out hy0 hy1 hy2 rfl (by decide) (.slice e3 n3 d3) n3 xs (by rfl) (own_ext Oz.out (Ext.refl W).drew) f3 j3 g3' news (by rfl) (Rd.ext hnews.out (Ext.refl W).drew) hone (by unfold maxLen; omega) (by omega) hzb ?_
 intro v'' w9 hown9 hgrow9 hat9
 obtain ⟨a9, c9, rfl, k91, k92, -⟩ := own_shape hown9
 have c90 : Chg (Value.slice e3 n3 d3).ownBlock.toList W.drew w9 := (Chg.refl _ _).grown hgrow9 (fun k hk => Or.inl (by simp [hk]))
 have hzq : z ∉ (Value.slice e3 n3 d3).ownBlock.toList := fun hm => own_ne_blk Oz.out Z8.out (by decide) (by simpa using hm)
 have hgq : g ∉ (Value.slice e3 n3 d3).ownBlock.toList := fun hm => own_ne_blk Oz.out G8.out (by decide) (by simpa using hm)
 replace HS := And.intro (c90.cell hzq HS.1) (And.intro (c90.cell hzq HS.2.1) (And.intro (c90.cell hgq HS.2.2.1) (And.intro (c90.cell hgq HS.2.2.2.1) (And.intro (c90.cell hgq HS.2.2.2.2.1) (c90.cell hgq HS.2.2.2.2.2)))))
 have Z9 := Z8.out.drew.chg c90 hzq
 obtain ⟨w0', w1', w2', w3'⟩ := Z9.c4
 obtain ⟨x0', x1', x2', x3'⟩ := Z9.fz4
 refine ⟨fun _ => HS, ?_⟩; try simp only [sx]
 refine tkq 12 [13] (.agg #[.slice f1 j1 g1', .slice f2 j2 g2', .slice a9 (n3 + j3) c9, .int .i64 (st + j4)]) rfl (fun _ _ _ h => hQ 98 h) HS ?_; try simp only [sx]
 refine storeD 13 rfl rfl (by kernel_rfl) (by rfl) (w' := ((((w9.setCell ⟨z, 0, none⟩ (.slice f1 j1 g1')).setCell ⟨z, 1, none⟩ (.slice f2 j2 g2')).setCell ⟨z, 2, none⟩ (.slice a9 (n3 + j3) c9)).setCell ⟨z, 3, none⟩ (.int .i64 (st + j4)))) (by go_simp) (fun h => absurd (by decide) h) ?_
 refine wpAnyD_done (by kernel_rfl) ?_ _
 exact hk a9 c9 w9 hown9 hgrow9 hat9 Z9
def errF (A : List (Bool × Int)) (L : Int) (C : List (Int × Int)) (D : List Int) (fu : Int) : Int :=
 if formE A L C = 0 then (if (pairR C).2 = 0 then (if 65536 < D.length then 5 else if fu < 0 then 2 else if 281474976710656 < fu then 2 else 0) else (pairR C).2) else formE A L C
theorem start_two {w : World} {A : List (Bool × Int)} {L : Int} {C : List (Int × Int)} {x : Ending} {w' : World} (h : StartP w A L C x w') : ∃ (a1 a2 : Option Addr) (n1 n2 c1 c2 : Nat), x = .returned (.tuple #[.agg #[.slice a1 n1 c1, .slice a2 n2 c2], .int .i64 (formE A L C)]) ∧ Ext w w' := by
 unfold StartP at h
 by_cases h0 : formE A L C = 0
 ·rw [if_pos h0] at h
  rw [h0]
  obtain ⟨ma, mc, e, h1, h2⟩ := h
  obtain ⟨a1, c1, a2, c2, rfl, rfl⟩ := h1.read.shape _ _ rfl rfl
  exact ⟨a1, a2, _, _, c1, c2, e, h2⟩
 ·rw [if_neg h0] at h
  exact ⟨none, none, 0, 0, 0, 0, h.1, h.2⟩
theorem rfeed_err (va vc vd : Value) (A : List (Bool × Int)) (L : Int) (C : List (Int × Int)) (D : List Int) (fu : Int) (hA : OkA A) (hC : OkI C) (hL0 : -9223372036854775808 ≤ L) (hL1 : L ≤ 9223372036854775807)
  (hf0 : -9223372036854775808 ≤ fu) (hf1 : fu ≤ 9223372036854775807) (hD : ∀ x ∈ D, 0 ≤ x ∧ x ≤ 255) (w : World) (ra : Arr w va A) (rc : Cod w vc C) (rd : Rd w 1 vd D.length (D.map (Value.int .u8))) (he : errF A L C D fu ≠ 0) :
  Calls Tryz.prog 23 #[.agg #[va, .int .i64 L, vc], vd, .int .i64 fu] w (fun x w' => x = .returned (.tuple #[.agg #[.slice none 0 0, .slice none 0 0, .slice none 0 0, .int .i64 0], .int .i64 (errF A L C D fu)]) ∧ Ext w w') := by
 obtain ⟨R, hR⟩ := ex (errF A L C D fu)
 rw [hR] at he ⊢
 replace hR := hidden hR
 replace he := hidden he
 obtain ⟨b, hb⟩ := ex w.heap.size
 obtain ⟨W1, hW1, X1, P1⟩ := alx w #[va, .int .i64 L, vc] [va, .int .i64 L, vc] 25 b hb
 have s1 : W1.heap.size = b + 1 := by rw [← hW1, ← hb]; exact Array.size_push ..
 obtain ⟨W4, hW4, X4, P4⟩ := alx W1 #[.slice none 0 0, .slice none 0 0, .slice none 0 0, .int .i64 0] [.slice none 0 0, .slice none 0 0, .slice none 0 0, .int .i64 0] 48 (b + 1) s1
 have s4 : W4.heap.size = b + 2 := by rw [← hW4]; show (W1.heap.push _).size = _; rw [Array.size_push, s1]
 have XW := hidden (X1.trans X4)
 have hW : Hid (((w.alloc (.cells #[va, .int .i64 L, vc] 25)).alloc (.cells #[.slice none 0 0, .slice none 0 0, .slice none 0 0, .int .i64 0] 48)) = W4) := hidden (by rw [hW1, hW4])
 replace P1 := P1.ext X4
 obtain ⟨p0, p1, p2⟩ := P1.c3
 have P1I := hidden P1
 have P4I := hidden P4
 clear P1 P4 X1 X4 hW1 hW4 s1
 clear W1
 have hst := rstart_any va vc A L C hA hC hL0 hL1 W4 (Rd.ext ra XW.out) (Rd.ext rc XW.out)
 have hpa := hidden (fun (W : World) (h : Ext W4 W) => rpartners_any vc C W (show Code18 W vc C from Rd.ext rc (XW.out.trans h)))
 obtain ⟨fe, hfe⟩ := ex (formE A L C)
 obtain ⟨pe, hpe⟩ := ex ((pairR C).2)
 replace hfe := hidden hfe
 replace hpe := hidden hpe
 have rdI := hidden rd
 obtain ⟨aa, ca, rfl, -⟩ := Rd.shape ra
 obtain ⟨ac, cc, rfl, -⟩ := Rd.shape rc
 obtain ⟨ad, cd, rfl, hcd, hcd2, -⟩ := Rd.shape rd
 have hCI := hidden hC
 have hDI := hidden hD
 have hbw := hidden (show w.heap.size ≤ b + 1 by omega)
 have s4I := hidden s4
 replace hst := hidden hst
 clear ra rc rd hA hC hD s4
 generalize hla : A.length = la at *
 generalize hlc : C.length = lc at *
 generalize hn : D.length = n at *
 replace hla := hidden hla
 replace hlc := hidden hlc
 replace hn := hidden hn
 go_enter Tryz.func23, Tryz.ntmps23
 go_wp2_with fail
 rw [hW.out]
 clear hb
 refine hst.out.mono ?_
 rintro x w1 hP
 obtain ⟨a1, a2, n1', n2', c1', c2', rfl, hX1⟩ := start_two hP
 rw [hfe.out]
 clear hP
 have X2 := hX1.alloc (.cells #[.slice a1 n1' c1', .slice a2 n2' c2'] 29)
 have u0 := X2.cell p0
 have u1 := X2.cell p1
 have u2 := X2.cell p2
 have hX2I := hidden X2
 clear X2 hX1 p0 p1 p2
 go_upto_region 2 with fail
 obtain ⟨w2, hw2⟩ := ex (w1.alloc (.cells #[.slice a1 n1' c1', .slice a2 n2' c2'] 29))
 rw [hw2] at hX2I u0 u1 u2 ⊢
 replace hw2 := hidden hw2
 by_cases h0 : fe = 0
 ·subst h0
  go_wp2_with fail
  refine (hpa.out w2 hX2I.out).mono ?_
  rintro x w3 ⟨vp, hx, hO, hX3⟩
  rw [hpe.out] at hx
  subst hx
  have hX3I := hidden (hX2I.out.trans hX3)
  obtain ⟨ap, cp, rfl, -⟩ := own_shape (show w3.ownsRow _ _ _ vp _ _ from hO)
  clear hO hX3 u0 u1 u2
  by_cases h1 : pe = 0
  ·subst h1
   by_cases hlong : 65536 < n
   ·have hln : (65536 : Int) < (n : Int) := by omega
    have hRe : R = 5 := by rw [← hR.out]; unfold errF; rw [hfe.out, if_pos rfl, hpe.out, if_pos rfl, hn.out, if_pos hlong]
    subst hRe
    have B4 := P4I.out.ext (hX3I.out)
    obtain ⟨f0, f1, f2, f3⟩ := B4.fz4
    obtain ⟨g0, g1, g2, g3⟩ := B4.c4
    have B4I := hidden B4
    have hX4I := hidden (XW.out.trans (hX3I.out))
    clear B4
    go_wp2_with fail
    have B5 := set4_blk B4I.out (.slice none 0 0) (.slice none 0 0) (.slice none 0 0) (.int .i64 0)
    obtain ⟨z0, z1, z2, z3⟩ := B5.c4
    refine bodyPost_ret (v := .tuple #[.agg #[.slice none 0 0, .slice none 0 0, .slice none 0 0, .int .i64 0], .int .i64 5]) (by simp [results, Tryz.results23, go_sem, z0, z1, z2, z3]) rfl ?_
    exact ⟨rfl, set4_ext hX4I.out hbw.out _ _ _ _⟩
   ·have hln : ¬ (65536 : Int) < (n : Int) := by omega
    by_cases hfr : fu < 0
    ·have hfd : decide (fu < 0) = true := decide_eq_true hfr
     have hRe : R = 2 := by rw [← hR.out]; unfold errF; rw [hfe.out, if_pos rfl, hpe.out, if_pos rfl, hn.out, if_neg hlong, if_pos hfr]
     subst hRe
     have B4 := P4I.out.ext (hX3I.out)
     obtain ⟨f0, f1, f2, f3⟩ := B4.fz4
     obtain ⟨g0, g1, g2, g3⟩ := B4.c4
     have B4I := hidden B4
     have hX4I := hidden (XW.out.trans (hX3I.out))
     clear B4
     go_wp2_with fail
     have B5 := set4_blk B4I.out (.slice none 0 0) (.slice none 0 0) (.slice none 0 0) (.int .i64 0)
     obtain ⟨z0, z1, z2, z3⟩ := B5.c4
     refine bodyPost_ret (v := .tuple #[.agg #[.slice none 0 0, .slice none 0 0, .slice none 0 0, .int .i64 0], .int .i64 2]) (by simp [results, Tryz.results23, go_sem, z0, z1, z2, z3]) rfl ?_
     exact ⟨rfl, set4_ext hX4I.out hbw.out _ _ _ _⟩
    ·have hfd1 : decide (fu < 0) = false := decide_eq_false hfr
     by_cases hfs : 281474976710656 < fu
     ·have hfd2 : decide (281474976710656 < fu) = true := decide_eq_true hfs
      have hRe : R = 2 := by rw [← hR.out]; unfold errF; rw [hfe.out, if_pos rfl, hpe.out, if_pos rfl, hn.out, if_neg hlong, if_neg hfr, if_pos hfs]
      subst hRe
      have B4 := P4I.out.ext (hX3I.out)
      obtain ⟨f0, f1, f2, f3⟩ := B4.fz4
      obtain ⟨g0, g1, g2, g3⟩ := B4.c4
      have B4I := hidden B4
      have hX4I := hidden (XW.out.trans (hX3I.out))
      clear B4
      go_wp2_with fail
      have B5 := set4_blk B4I.out (.slice none 0 0) (.slice none 0 0) (.slice none 0 0) (.int .i64 0)
      obtain ⟨z0, z1, z2, z3⟩ := B5.c4
      refine bodyPost_ret (v := .tuple #[.agg #[.slice none 0 0, .slice none 0 0, .slice none 0 0, .int .i64 0], .int .i64 2]) (by simp [results, Tryz.results23, go_sem, z0, z1, z2, z3]) rfl ?_
      exact ⟨rfl, set4_ext hX4I.out hbw.out _ _ _ _⟩
     ·exact absurd (by rw [← hR.out]; unfold errF; rw [hfe.out, if_pos rfl, hpe.out, if_pos rfl, hn.out, if_neg hlong, if_neg hfr, if_neg hfs]) he.out
  ·have he0 : (pe == 0) = false := by simpa using h1
   have hRe : R = pe := by rw [← hR.out]; unfold errF; rw [hfe.out, if_pos rfl, hpe.out, if_neg h1]
   subst hRe
   have B4 := P4I.out.ext (hX3I.out)
   obtain ⟨f0, f1, f2, f3⟩ := B4.fz4
   obtain ⟨g0, g1, g2, g3⟩ := B4.c4
   have B4I := hidden B4
   have hX4I := hidden (XW.out.trans (hX3I.out))
   clear B4
   go_wp2_with fail
   have B5 := set4_blk B4I.out (.slice none 0 0) (.slice none 0 0) (.slice none 0 0) (.int .i64 0)
   obtain ⟨z0, z1, z2, z3⟩ := B5.c4
   refine bodyPost_ret (v := .tuple #[.agg #[.slice none 0 0, .slice none 0 0, .slice none 0 0, .int .i64 0], .int .i64 R]) (by simp [results, Tryz.results23, go_sem, z0, z1, z2, z3]) rfl ?_
   exact ⟨rfl, set4_ext hX4I.out hbw.out _ _ _ _⟩
 ·have he0 : (fe == 0) = false := by simpa using h0
  have hRe : R = fe := by rw [← hR.out]; unfold errF; rw [hfe.out, if_neg h0]
  subst hRe
  clear u0 u1 u2
  have B4 := P4I.out.ext (hX2I.out)
  obtain ⟨f0, f1, f2, f3⟩ := B4.fz4
  obtain ⟨g0, g1, g2, g3⟩ := B4.c4
  have B4I := hidden B4
  have hX4I := hidden (XW.out.trans (hX2I.out))
  clear B4
  go_wp2_with fail
  have B5 := set4_blk B4I.out (.slice none 0 0) (.slice none 0 0) (.slice none 0 0) (.int .i64 0)
  obtain ⟨z0, z1, z2, z3⟩ := B5.c4
  refine bodyPost_ret (v := .tuple #[.agg #[.slice none 0 0, .slice none 0 0, .slice none 0 0, .int .i64 0], .int .i64 R]) (by simp [results, Tryz.results23, go_sem, z0, z1, z2, z3]) rfl ?_
  exact ⟨rfl, set4_ext hX4I.out hbw.out _ _ _ _⟩
end Go.Proofs.YtgjjklajipekdaaGreat
