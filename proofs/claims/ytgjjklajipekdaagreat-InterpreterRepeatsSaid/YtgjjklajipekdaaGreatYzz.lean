/- The body of a loop is executed as often as the number says, or until it is left: for all numbers. -/
import Derived.Test.YtgjjklajipekdaaGreatYzy
namespace Go.Proofs.YtgjjklajipekdaaGreat
open Go.RowKit
set_option linter.unusedVariables false
set_option linter.unusedSimpArgs false
attribute [local go_sem ↓] Go.wp_at_zero Go.wp_at_succ

theorem rng_at {n k : Nat} (h : k < n) : (rng n)[k]? = some (k : Int) := by unfold rng; simp [h]
theorem rng_take {n k : Nat} (h : k ≤ n) : (rng n).take k = rng k := by
  unfold rng
  rw [← List.map_take, List.take_range, Nat.min_eq_left h]
set_option maxHeartbeats 4000000 in
set_option maxRecDepth 100000 in
theorem repreg17 {Q : Exit → Act → World → Prop} {W : World} {s r n3 c3 n5 c5 c4 : Nat} {a3 a4 a5 : Option Addr} {k z : Int} (t0 t1 t2 t3 t4 t5 t7 t8 t9 t10 t15 t16 t17 t18 t19 t20 t21 t22 t23 t24 t25 t26 t27 t28 t29 t30 t31 t32 t33 t34 t35 t36 t37 t38 t39 t40 t41 t42 t43 t44 t45 t46 t47 t48 t49 t50 t51 t52 t53 t54 t55 t56 t57 t58 t59 t60 t61 t62 t63 t64 t65 t66 t67 t68 t69 t70 t71 t72 t73 t74 t75 t76 t77 t78 t79 t80 t81 t82 t83 t84 t85 t86 t87 t88 t89 t90 t91 t92 t93 t94 t95 t96 t97 t98 t99 t100 t101 t102 t103 t104 t105 t106 t107 t108 : Value)
    (hQ : ∀ (d : Tmp) {c : List PanicEntry} {a : Act} {v : Value} {w : World}, Q (.panic c) (a.put (some d) v) w → Q (.panic c) a w)
    (d0 : W.cell? ⟨s, 2, none⟩ = some (.slice a3 n3 c3)) (d1 : W.cell? ⟨s, 3, none⟩ = some (.int .i64 z)) (d2 : W.cell? ⟨r, 2, none⟩ = some (.slice a5 n5 c5))
    (hcut : ∀ w, (Instr.sliceAt 46 (.slice a5 n5 c5) none (some (.int .i64 k)) none).run Tryz.prog w = .ok (.slice a4 n3 c4) w)
    (hceq : Hid (∀ W', Ext W W' → Calls Tryz.prog 26 #[.slice a3 n3 c3, .slice a4 n3 c4] W' fun x w' => x = .returned (.bool true) ∧ Ext W' w'))
    (hk : ∀ (w9 : World), Ext W w9 → Q .normal { tmps := #[t0, t1, t2, t3, .bool true, t5, .pointer (some ⟨r, 0, none⟩), t7, t8, t9, t10, .int .i64 k, .int .i64 z, .pointer (some ⟨s, 0, none⟩), .int .i64 0, t15, t16, t17, t18, t19, t20, t21, t22, t23, t24, t25, t26, t27, t28, t29, t30, t31, t32, t33, t34, t35, t36, t37, t38, t39, t40, t41, t42, t43, t44, t45, t46, t47, t48, t49, t50, t51, t52, t53, t54, t55, t56, t57, t58, t59, t60, t61, t62, t63, t64, t65, t66, t67, t68, t69, t70, t71, t72, t73, t74, t75, t76, t77, t78, t79, t80, t81, t82, t83, t84, t85, t86, t87, t88, .int .i64 0, .bool true, .bool true, .pointer (some ⟨s, 2, none⟩), .slice a3 n3 c3, .pointer (some ⟨r, 2, none⟩), .slice a5 n5 c5, .int .i64 k, .slice a4 n3 c4, .bool true, .bool true, .bool true, .pointer (some ⟨s, 3, none⟩), .int .i64 z, .int .i64 z, .bool true, .bool true, .bool true, .bool true, .bool true], defers := [] } w9) :
    (Code.region 17 #[{ dst := some 89, op := Op.move (Operand.tmp 14), type := 33, pos := "law.go:163", after := #[], guard := none }, { dst := some 90, op := Op.binOp BinOp.eql 33 (Operand.tmp 89) (Operand.const (Value.int IntKind.i64 0)) 33, type := 4, pos := "law.go:163", after := #[{ on := 0, ground := Ground.data }], guard := none }, { dst := some 91, op := Op.move (Operand.tmp 90), type := 4, pos := "law.go:163", after := #[{ on := 1, ground := Ground.data }], guard := none }, { dst := some 92, op := Op.fieldAddr 48 (Operand.tmp 13) 1, type := 0, pos := "law.go:163", after := #[{ on := 2, ground := Ground.guard }], guard := some (2, true) }, { dst := some 93, op := Op.load 46 (Operand.tmp 92), type := 46, pos := "law.go:163", after := #[{ on := 3, ground := Ground.data }, { on := 2, ground := Ground.guard }], guard := some (2, true) }, { dst := some 94, op := Op.fieldAddr 48 (Operand.tmp 6) 1, type := 0, pos := "law.go:163", after := #[{ on := 2, ground := Ground.guard }], guard := some (2, true) }, { dst := some 95, op := Op.load 46 (Operand.tmp 94), type := 46, pos := "law.go:163", after := #[{ on := 5, ground := Ground.data }, { on := 2, ground := Ground.guard }], guard := some (2, true) }, { dst := some 96, op := Op.move (Operand.tmp 11), type := 3, pos := "law.go:163", after := #[{ on := 2, ground := Ground.guard }], guard := some (2, true) }, { dst := some 97, op := Op.slice 46 (Operand.tmp 95) none (some (Operand.tmp 96)) none, type := 46, pos := "law.go:163", after := #[{ on := 6, ground := Ground.data }, { on := 7, ground := Ground.data }, { on := 2, ground := Ground.guard }], guard := some (2, true) }, { dst := some 98, op := Op.call { callee := Callee.value (Operand.func 26), args := #[Operand.tmp 93, Operand.tmp 97], argTypes := #[46, 46] }, type := 4, pos := "law.go:163", after := #[{ on := 4, ground := Ground.data }, { on := 8, ground := Ground.data }, { on := 2, ground := Ground.chain }, { on := 2, ground := Ground.guard }], guard := some (2, true) }, { dst := some 99, op := Op.pick (Operand.tmp 91) (Operand.tmp 98) (Operand.const (Value.bool false)), type := 4, pos := "law.go:163", after := #[{ on := 2, ground := Ground.data }, { on := 9, ground := Ground.data }], guard := none }, { dst := some 100, op := Op.move (Operand.tmp 99), type := 4, pos := "law.go:163", after := #[{ on := 10, ground := Ground.data }, { on := 9, ground := Ground.chain }], guard := none }, { dst := some 101, op := Op.fieldAddr 48 (Operand.tmp 13) 2, type := 0, pos := "law.go:163", after := #[{ on := 11, ground := Ground.guard }], guard := some (11, true) }, { dst := some 102, op := Op.load 3 (Operand.tmp 101), type := 3, pos := "law.go:163", after := #[{ on := 12, ground := Ground.data }, { on := 11, ground := Ground.guard }], guard := some (11, true) }, { dst := some 103, op := Op.move (Operand.tmp 12), type := 3, pos := "law.go:163", after := #[{ on := 11, ground := Ground.guard }], guard := some (11, true) }, { dst := some 104, op := Op.binOp BinOp.eql 3 (Operand.tmp 102) (Operand.tmp 103) 3, type := 4, pos := "law.go:163", after := #[{ on := 13, ground := Ground.data }, { on := 14, ground := Ground.data }, { on := 11, ground := Ground.guard }], guard := some (11, true) }, { dst := some 105, op := Op.pick (Operand.tmp 100) (Operand.tmp 104) (Operand.const (Value.bool false)), type := 4, pos := "law.go:163", after := #[{ on := 11, ground := Ground.data }, { on := 15, ground := Ground.data }], guard := none }, { dst := some 106, op := Op.move (Operand.tmp 105), type := 4, pos := "law.go:163", after := #[{ on := 16, ground := Ground.data }, { on := 11, ground := Ground.chain }], guard := none }, { dst := some 107, op := Op.call { callee := Callee.value (Operand.func 12), args := #[], argTypes := #[] }, type := 4, pos := "law.go:163", after := #[{ on := 17, ground := Ground.chain }, { on := 17, ground := Ground.guard }], guard := some (17, true) }, { dst := some 108, op := Op.pick (Operand.tmp 106) (Operand.tmp 107) (Operand.const (Value.bool false)), type := 4, pos := "law.go:163", after := #[{ on := 17, ground := Ground.data }, { on := 18, ground := Ground.data }], guard := none }, { dst := some 4, op := Op.assign (Operand.tmp 108), type := 4, pos := "law.go:163", after := #[{ on := 19, ground := Ground.data }, { on := 18, ground := Ground.chain }, { on := 0, ground := Ground.phase }, { on := 1, ground := Ground.phase }, { on := 2, ground := Ground.phase }, { on := 3, ground := Ground.phase }, { on := 4, ground := Ground.phase }, { on := 5, ground := Ground.phase }, { on := 6, ground := Ground.phase }, { on := 7, ground := Ground.phase }, { on := 8, ground := Ground.phase }, { on := 9, ground := Ground.phase }, { on := 10, ground := Ground.phase }, { on := 11, ground := Ground.phase }, { on := 12, ground := Ground.phase }, { on := 13, ground := Ground.phase }, { on := 14, ground := Ground.phase }, { on := 15, ground := Ground.phase }, { on := 16, ground := Ground.phase }, { on := 17, ground := Ground.phase }, { on := 18, ground := Ground.phase }, { on := 19, ground := Ground.phase }], guard := none }] true).wp Tryz.prog Q { tmps := #[t0, t1, t2, t3, t4, t5, .pointer (some ⟨r, 0, none⟩), t7, t8, t9, t10, .int .i64 k, .int .i64 z, .pointer (some ⟨s, 0, none⟩), .int .i64 0, t15, t16, t17, t18, t19, t20, t21, t22, t23, t24, t25, t26, t27, t28, t29, t30, t31, t32, t33, t34, t35, t36, t37, t38, t39, t40, t41, t42, t43, t44, t45, t46, t47, t48, t49, t50, t51, t52, t53, t54, t55, t56, t57, t58, t59, t60, t61, t62, t63, t64, t65, t66, t67, t68, t69, t70, t71, t72, t73, t74, t75, t76, t77, t78, t79, t80, t81, t82, t83, t84, t85, t86, t87, t88, t89, t90, t91, t92, t93, t94, t95, t96, t97, t98, t99, t100, t101, t102, t103, t104, t105, t106, t107, t108], defers := [] } W := by
  refine wp_region_D (S := fun w' => w'.cell? ⟨s, 2, none⟩ = some (.slice a3 n3 c3) ∧ w'.cell? ⟨s, 3, none⟩ = some (.int .i64 z) ∧ w'.cell? ⟨r, 2, none⟩ = some (.slice a5 n5 c5)) (D := []) (by kernel_rfl) ⟨d0, d1, d2⟩ (fun HS => ?_)
  refine takeD 0 [] (.int .i64 0) rfl rfl (by kernel_rfl) (by kernel_rfl) (by kernel_rfl) (by kernel_rfl) (by decide) (by decide) (fun _ _ _ h => hQ 89 h) (by rfl) (fun w' hw' => by go_simp) HS ?_
  try simp only [List.setIfInBounds_toArray, List.set_cons_zero, List.set_cons_succ]
  refine takeD 1 [] (.bool true) rfl rfl (by kernel_rfl) (by kernel_rfl) (by kernel_rfl) (by kernel_rfl) (by decide) (by decide) (fun _ _ _ h => hQ 90 h) (by rfl) (fun w' hw' => by go_simp) HS ?_
  try simp only [List.setIfInBounds_toArray, List.set_cons_zero, List.set_cons_succ]
  refine takeD 2 [] (.bool true) rfl rfl (by kernel_rfl) (by kernel_rfl) (by kernel_rfl) (by kernel_rfl) (by decide) (by decide) (fun _ _ _ h => hQ 91 h) (by rfl) (fun w' hw' => by go_simp) HS ?_
  try simp only [List.setIfInBounds_toArray, List.set_cons_zero, List.set_cons_succ]
  refine takeD 3 [] (.pointer (some ⟨s, 2, none⟩)) rfl rfl (by kernel_rfl) (by kernel_rfl) (by kernel_rfl) (by kernel_rfl) (by decide) (by decide) (fun _ _ _ h => hQ 92 h) (by rfl) (fun w' hw' => by go_simp) HS ?_
  try simp only [List.setIfInBounds_toArray, List.set_cons_zero, List.set_cons_succ]
  refine takeD 4 [] (.slice a3 n3 c3) rfl rfl (by kernel_rfl) (by kernel_rfl) (by kernel_rfl) (by kernel_rfl) (by decide) (by decide) (fun _ _ _ h => hQ 93 h) (by rfl) (fun w' hw' => by obtain ⟨hw0, hw1, hw2⟩ := hw'; go_simp) HS ?_
  try simp only [List.setIfInBounds_toArray, List.set_cons_zero, List.set_cons_succ]
  refine takeD 5 [] (.pointer (some ⟨r, 2, none⟩)) rfl rfl (by kernel_rfl) (by kernel_rfl) (by kernel_rfl) (by kernel_rfl) (by decide) (by decide) (fun _ _ _ h => hQ 94 h) (by rfl) (fun w' hw' => by go_simp) HS ?_
  try simp only [List.setIfInBounds_toArray, List.set_cons_zero, List.set_cons_succ]
  refine takeD 6 [] (.slice a5 n5 c5) rfl rfl (by kernel_rfl) (by kernel_rfl) (by kernel_rfl) (by kernel_rfl) (by decide) (by decide) (fun _ _ _ h => hQ 95 h) (by rfl) (fun w' hw' => by obtain ⟨hw0, hw1, hw2⟩ := hw'; go_simp) HS ?_
  try simp only [List.setIfInBounds_toArray, List.set_cons_zero, List.set_cons_succ]
  refine takeD 7 [] (.int .i64 k) rfl rfl (by kernel_rfl) (by kernel_rfl) (by kernel_rfl) (by kernel_rfl) (by decide) (by decide) (fun _ _ _ h => hQ 96 h) (by rfl) (fun w' hw' => by go_simp) HS ?_
  try simp only [List.setIfInBounds_toArray, List.set_cons_zero, List.set_cons_succ]
  refine takeD 8 [] (.slice a4 n3 c4) rfl rfl (by kernel_rfl) (by kernel_rfl) (by kernel_rfl) (by kernel_rfl) (by decide) (by decide) (fun _ _ _ h => hQ 97 h) (by rfl) (fun w' hw' => by go_simp) HS ?_
  try simp only [List.setIfInBounds_toArray, List.set_cons_zero, List.set_cons_succ]
  refine callVD 9 26 #[.slice a3 n3 c3, .slice a4 n3 c4] rfl rfl (by kernel_rfl) (by rfl) (by go_simp) (hceq.out W.drew (Ext.refl W).drew) ?_
  rintro x w2 ⟨rfl, hX2⟩
  have HS2 := And.intro (hX2.cell HS.1) (And.intro (hX2.cell HS.2.1) (hX2.cell HS.2.2))
  refine Or.inl ⟨_, rfl, fun _ => HS2, ?_⟩
  try simp only [Act.put, List.setIfInBounds_toArray, List.set_cons_zero, List.set_cons_succ]
  refine takeD 10 [] (.bool true) rfl rfl (by kernel_rfl) (by kernel_rfl) (by kernel_rfl) (by kernel_rfl) (by decide) (by decide) (fun _ _ _ h => hQ 99 h) (by rfl) (fun w' hw' => by go_simp) HS2 ?_
  try simp only [List.setIfInBounds_toArray, List.set_cons_zero, List.set_cons_succ]
  refine takeD 11 [] (.bool true) rfl rfl (by kernel_rfl) (by kernel_rfl) (by kernel_rfl) (by kernel_rfl) (by decide) (by decide) (fun _ _ _ h => hQ 100 h) (by rfl) (fun w' hw' => by go_simp) HS2 ?_
  try simp only [List.setIfInBounds_toArray, List.set_cons_zero, List.set_cons_succ]
  refine takeD 12 [] (.pointer (some ⟨s, 3, none⟩)) rfl rfl (by kernel_rfl) (by kernel_rfl) (by kernel_rfl) (by kernel_rfl) (by decide) (by decide) (fun _ _ _ h => hQ 101 h) (by rfl) (fun w' hw' => by go_simp) HS2 ?_
  try simp only [List.setIfInBounds_toArray, List.set_cons_zero, List.set_cons_succ]
  refine takeD 13 [] (.int .i64 z) rfl rfl (by kernel_rfl) (by kernel_rfl) (by kernel_rfl) (by kernel_rfl) (by decide) (by decide) (fun _ _ _ h => hQ 102 h) (by rfl) (fun w' hw' => by obtain ⟨hw0, hw1, hw2⟩ := hw'; go_simp) HS2 ?_
  try simp only [List.setIfInBounds_toArray, List.set_cons_zero, List.set_cons_succ]
  refine takeD 14 [] (.int .i64 z) rfl rfl (by kernel_rfl) (by kernel_rfl) (by kernel_rfl) (by kernel_rfl) (by decide) (by decide) (fun _ _ _ h => hQ 103 h) (by rfl) (fun w' hw' => by go_simp) HS2 ?_
  try simp only [List.setIfInBounds_toArray, List.set_cons_zero, List.set_cons_succ]
  refine takeD 15 [] (.bool true) rfl rfl (by kernel_rfl) (by kernel_rfl) (by kernel_rfl) (by kernel_rfl) (by decide) (by decide) (fun _ _ _ h => hQ 104 h) (by rfl) (fun w' hw' => by go_simp) HS2 ?_
  try simp only [List.setIfInBounds_toArray, List.set_cons_zero, List.set_cons_succ]
  refine takeD 16 [] (.bool true) rfl rfl (by kernel_rfl) (by kernel_rfl) (by kernel_rfl) (by kernel_rfl) (by decide) (by decide) (fun _ _ _ h => hQ 105 h) (by rfl) (fun w' hw' => by go_simp) HS2 ?_
  try simp only [List.setIfInBounds_toArray, List.set_cons_zero, List.set_cons_succ]
  refine takeD 17 [] (.bool true) rfl rfl (by kernel_rfl) (by kernel_rfl) (by kernel_rfl) (by kernel_rfl) (by decide) (by decide) (fun _ _ _ h => hQ 106 h) (by rfl) (fun w' hw' => by go_simp) HS2 ?_
  try simp only [List.setIfInBounds_toArray, List.set_cons_zero, List.set_cons_succ]
  refine callVD 18 12 #[] rfl rfl (by kernel_rfl) (by rfl) (by go_simp) (awake_any w2) ?_
  rintro x w3 ⟨rfl, hX3⟩
  have HS3 := And.intro (hX3.cell HS2.1) (And.intro (hX3.cell HS2.2.1) (hX3.cell HS2.2.2))
  refine Or.inl ⟨_, rfl, fun _ => HS3, ?_⟩
  try simp only [Act.put, List.setIfInBounds_toArray, List.set_cons_zero, List.set_cons_succ]
  refine takeD 19 [] (.bool true) rfl rfl (by kernel_rfl) (by kernel_rfl) (by kernel_rfl) (by kernel_rfl) (by decide) (by decide) (fun _ _ _ h => hQ 108 h) (by rfl) (fun w' hw' => by go_simp) HS3 ?_
  try simp only [List.setIfInBounds_toArray, List.set_cons_zero, List.set_cons_succ]
  refine valueD 20 (.bool true) rfl rfl (by kernel_rfl) (by rfl) (w' := w3) (by go_simp) (fun _ => HS3) ?_
  try simp only [List.setIfInBounds_toArray, List.set_cons_zero, List.set_cons_succ]
  refine wpAnyD_done (by kernel_rfl) ?_ _
  exact hk w3 (((Ext.refl W).drew.trans hX2).trans hX3)
set_option maxHeartbeats 4000000 in
set_option maxRecDepth 100000 in
theorem InterpreterRepeats_law (ni li : Int) (hn0 : 0 ≤ ni) (hn1 : ni ≤ 255) (hl0 : 0 ≤ li) (hl1 : li ≤ 255) (w : World) :
    Calls Tryz.prog 8 #[.int .u8 ni, .int .u8 li] w fun x w' => x = .returned (.bool true) ∧ Ext w w' := by
  obtain ⟨n, rfl⟩ := Int.eq_ofNat_of_zero_le hn0
  obtain ⟨l, rfl⟩ := Int.eq_ofNat_of_zero_le hl0
  have hE := hidden (Ext.refl w)
  have hnw : IntKind.i64.wrap (n : Int) = (n : Int) := IntWalk.i64_in _ (by omega)
  have hlw32 : IntKind.u32.wrap (l : Int) = (l : Int) := by rw [IntKind.wrap_u32]; omega
  have h7 : IntKind.i64.wrap (7 * (n : Int)) = 7 * (n : Int) := IntWalk.i64_in _ (by omega)
  have h72 : IntKind.i64.wrap (2 + 7 * (n : Int)) = 2 + 7 * (n : Int) := IntWalk.i64_in _ (by omega)
  go_enter Tryz.func8, Tryz.ntmps8
  go_wp2_with fail
  refine (lcounting_any (n : Int) (by omega) (by omega) w).mono ?_
  rintro x w1 ⟨vc, rfl, hC, hX⟩
  obtain ⟨ac, cc, rfl, -⟩ := Rd.shape (show Rd w1 2 vc 9 _ from hC)
  obtain ⟨cb, co, rfl, -, -⟩ := Rd.cells (show Rd w1 2 (.slice ac 9 cc) 9 _ from hC) (show 0 < 9 by decide)
  replace hC := hidden hC
  replace hE := hidden (hE.out.trans hX)
  clear hX
  obtain ⟨p, hp⟩ : ∃ p, w1.heap.size = p := ⟨_, rfl⟩
  have XN := (Ext.refl w1).alloc (.cells #[.slice none 0 0, .int .i64 1, .slice (some ⟨cb, co, none⟩) 9 cc] 25)
  have BN := blk_at1 w1 [.slice none 0 0, .int .i64 1, .slice (some ⟨cb, co, none⟩) 9 cc] 25 p hp
  obtain ⟨V1, hV1V⟩ : ∃ V, w1.alloc (.cells #[.slice none 0 0, .int .i64 1, .slice (some ⟨cb, co, none⟩) 9 cc] 25) = V := ⟨_, rfl⟩
  rw [show (w1.alloc (.cells ([.slice none 0 0, .int .i64 1, .slice (some ⟨cb, co, none⟩) 9 cc] : List Value).toArray 25)) = V1 from hV1V] at BN
  rw [hV1V] at XN
  replace hC := hidden ((Rd.ext hC.out XN : Cod _ _ _))
  replace hE := hidden (hE.out.trans XN)
  have Bp := hidden BN
  clear BN
  clear XN
  replace hV1V := hidden hV1V
  go_upto_region 2 with fail
  rw [hV1V.out]
  clear hV1V hp
  have cp0 := Bp.out.cell 0 _ rfl
  have cp1 := Bp.out.cell 1 _ rfl
  have cp2 := Bp.out.cell 2 _ rfl
  have hfe := hidden (ifeed_any (.slice none 0 0) (.slice (some ⟨cb, co, none⟩) 9 cc) (.slice none 0 0) [] 1 (cntC n) [] 5000 oka_nil (oki_cntn (by omega) (by omega)) (by decide) (by decide) (by decide) (by decide) (fun _ h => by cases h) V1 (rd_none _ _) hC.out (rd_none _ _))
  rw [cnt_feed n (by omega)] at hfe
  replace hfe := hidden (cal_ok hfe.out)
  go_wp2_with fail
  refine (hfe.out).mono ?_
  rintro x w2 ⟨ra, rz, ro, rfl, hM, hRo, hX⟩
  clear cp0 cp1 cp2
  obtain ⟨ar, cr, az, cz, rfl, rfl⟩ := hM.shape 0 16 rfl rfl
  rw [rng_len] at hRo
  obtain ⟨ao, co2, rfl, -⟩ := Rd.shape hRo
  clear hM hfe
  replace hRo := hidden hRo
  replace Bp := hidden (Bp.out.ext hX)
  replace hC := hidden ((Rd.ext hC.out hX : Cod _ _ _))
  replace hE := hidden (hE.out.trans hX)
  clear hX
  obtain ⟨r, hr⟩ : ∃ p, w2.heap.size = p := ⟨_, rfl⟩
  have XN := (Ext.refl w2).alloc (.cells #[.slice ar 0 cr, .slice az 16 cz, .slice ao n co2, .int .i64 (2 + 7 * (n : Int))] 48)
  have BN := blk_at1 w2 [.slice ar 0 cr, .slice az 16 cz, .slice ao n co2, .int .i64 (2 + 7 * (n : Int))] 48 r hr
  obtain ⟨V2, hV2V⟩ : ∃ V, w2.alloc (.cells #[.slice ar 0 cr, .slice az 16 cz, .slice ao n co2, .int .i64 (2 + 7 * (n : Int))] 48) = V := ⟨_, rfl⟩
  rw [show (w2.alloc (.cells ([.slice ar 0 cr, .slice az 16 cz, .slice ao n co2, .int .i64 (2 + 7 * (n : Int))] : List Value).toArray 48)) = V2 from hV2V] at BN
  rw [hV2V] at XN
  replace Bp := hidden (Bp.out.ext XN)
  replace hC := hidden ((Rd.ext hC.out XN : Cod _ _ _))
  replace hRo := hidden (Rd.ext hRo.out XN)
  replace hE := hidden (hE.out.trans XN)
  have Br := hidden BN
  clear BN
  clear XN
  replace hV2V := hidden hV2V
  go_upto_region 3 with fail
  rw [hV2V.out]
  clear hV2V hr
  have cr0 := Br.out.cell 0 _ rfl
  have cr1 := Br.out.cell 1 _ rfl
  have cr2 := Br.out.cell 2 _ rfl
  have cr3 := Br.out.cell 3 _ rfl
  have cp0 := Bp.out.cell 0 _ rfl
  have cp1 := Bp.out.cell 1 _ rfl
  have cp2 := Bp.out.cell 2 _ rfl
  go_wp2_with fail
  go_loopw [45] (fun ix wr => ∃ k : Nat, k ≤ n ∧ ix = .int .i64 (k : Int) ∧ Hid (Ext V2 wr)) (fun ix _ => (n - intOf ix).toNat)
  case atStart => exact ⟨0, by omega, rfl, hidden (Ext.refl _)⟩
  case round =>
    obtain ⟨k, hk, rfl, hE3⟩ := hrel
    clear cr0 cr1 cr2 cr3 cp0 cp1 cp2
    have hkw : IntKind.i64.wrap ((k : Int) + 1) = (k : Int) + 1 := IntWalk.i64_in _ (by omega)
    have hkw2 : IntKind.i64.wrap (k : Int) = (k : Int) := IntWalk.i64_in _ (by omega)
    by_cases hlt : k < n
    · have hlt' : (k : Int) < (n : Int) := by omega
      obtain ⟨ob, oo, rfl, -, -⟩ := Rd.cells hRo.out (show 0 < n by omega)
      have dk := hE3.out.cell (rd_at hRo.out k (.int .u8 (k : Int)) (by rw [List.getElem?_map, rng_at hlt]; rfl))
      go_wp2_with fail
      go_roundw
      case rel => exact ⟨k + 1, by omega, by go_num, hE3⟩
      case measure => simp [intOf]; omega
    · have hlt' : ¬ (k : Int) < (n : Int) := by omega
      obtain rfl : k = n := by omega
      replace Bp := hidden (Bp.out.ext hE3.out)
      replace Br := hidden (Br.out.ext hE3.out)
      replace hC := hidden ((Rd.ext hC.out hE3.out : Cod _ _ _))
      replace hRo := hidden (Rd.ext hRo.out hE3.out)
      replace hE := hidden (hE.out.trans hE3.out)
      clear hE3
      obtain ⟨W3, hWW⟩ : ∃ Z, Z = wr := ⟨_, rfl⟩
      subst hWW
      have hsz2 : ∀ w, (sizeOf 63).run Tryz.prog w = .ok 2 w := fun w => by
        obtain ⟨i0, hi, hz0, hz1, hz2⟩ := info_parts instr_info
        simp [go_sem, hi, hz1]
      obtain ⟨a2, c2, hcut1, hA2⟩ := cut_h (P := Tryz.prog) Tryz.underlying23 hsz2 (show Rd W3 2 (.slice (some ⟨cb, co, none⟩) 9 cc) 9 ((cntC k).flatMap cI) from hC.out) 2 2 rfl (by decide)
      obtain ⟨a7, c7, hcut2, hA7, -⟩ := cut_l (P := Tryz.prog) Tryz.underlying23 hsz2 (show Rd W3 2 (.slice (some ⟨cb, co, none⟩) 9 cc) 9 ((cntC k).flatMap cI) from hC.out) 2 2 rfl (by decide)
      have hA2' : Hid (Rd W3 2 (.slice a2 2 c2) 2 ((cA1 (k : Int)).flatMap cI)) := hidden hA2
      have hA7' : Hid (Rd W3 2 (.slice a7 7 c7) 7 (cA3.flatMap cI)) := hidden hA7
      replace hcut2 : ∀ w, (Instr.sliceAt 23 (.slice (some ⟨cb, co, none⟩) 9 cc) (some (.int .i64 2)) none none).run Tryz.prog w = .ok (.slice a7 7 c7) w := hcut2
      have hcut1I := hidden hcut1
      have hcut2I := hidden hcut2
      clear hA2 hA7 hcut1 hcut2 hsz2
      go_upto_region 11 with fail
      refine repreg11 (n := (k : Int)) (l := (l : Int)) _ _ _ _ _ _ _ _ _ _ _ _ _ _ _ _ _ _ _ _ _ _ _ _ _ _ _ _ _ _ _ _ _ _ _ _ _ _ _ _ _ _ _ _ _ _ _ _ _ _ _ _ _ _ _ _ _ _ _ _ _ _ _ _ _ _ _ _ _ _ _ _ _ _ _ _ _ _ _ _ _ _ _ _ _ _ _ _ _ _ _ _ _ _ _ _ _ _ _ _ _ _ _ _ _ _ _ (fun _ _ _ _ _ h => h) Bp hlw32 hcut1I.out hcut2I.out hA2' hA7' ?_
      intro q a9 c9 u0 u1 w4 hX4 hB4 hC4
      clear hC Bp hA2' hA7' hcut1I hcut2I
      replace hRo := hidden (Rd.ext hRo.out hX4)
      replace Br := hidden (Br.out.ext hX4)
      replace hE := hidden (hE.out.trans hX4)
      have Bq := hidden hB4
      have hC := hidden (show Cod w4 (.slice a9 13 c9) (brC (k : Int) (l : Int)) from hC4)
      clear hX4 hB4 hC4
      have hlw := IntWalk.i64_in (l : Int) (by omega)
      have hkw3 := IntWalk.i64_in (k : Int) (by omega)
      go_upto_region 13 with fail
      obtain ⟨kk, hkk⟩ : ∃ x, min k l = x := ⟨_, rfl⟩
      have hmin : min (k : Int) (l : Int) = (kk : Int) := by rw [← hkk]; omega
      have hkl : kk ≤ k := by omega
      rw [hmin]
      clear hmin
      have hkkI := hidden hkk
      have h11 : IntKind.i64.wrap (11 * (kk : Int)) = 11 * (kk : Int) := IntWalk.i64_in _ (by omega)
      have h112 : IntKind.i64.wrap (2 + 11 * (kk : Int)) = 2 + 11 * (kk : Int) := IntWalk.i64_in _ (by omega)
      have h113 : IntKind.i64.wrap (2 + 11 * (kk : Int) + 5) = 2 + 11 * (kk : Int) + 5 := IntWalk.i64_in _ (by omega)
      by_cases hlk : l < k
      · have hlk' : decide ((l : Int) < (k : Int)) = true := by simp; omega
        replace hlk := hidden hlk
        clear hkk
        go_upto_region 16 with fail
        have cq0 := Bq.out.cell 0 _ rfl
        have cq1 := Bq.out.cell 1 _ rfl
        have cq2 := Bq.out.cell 2 _ rfl
        have hfe := hidden (ifeed_any (.slice none 0 0) (.slice a9 13 c9) (.slice none 0 0) [] 1 (brC k l) [] 5000 oka_nil (oki_br (by omega) (by omega) (by omega) (by omega)) (by decide) (by decide) (by decide) (by decide) (fun _ h => by cases h) w4 (rd_none _ _) hC.out (rd_none _ _))
        have hce : cutE k l = .ok ([], z16, rng kk, (2 + 11 * (kk : Int) + 5)) := by unfold cutE; rw [hkkI.out, if_pos hlk.out]
        rw [br_feed k l (by omega) (by omega), hce] at hfe
        replace hfe := hidden (cal_ok hfe.out)
        clear hce hC
        go_wp2_with fail
        refine (hfe.out).mono ?_
        rintro x w5 ⟨ra, rz2, ro2, rfl, hM, hSo, hX⟩
        clear cq0 cq1 cq2
        obtain ⟨ar2, cr2', az2, cz2, rfl, rfl⟩ := hM.shape 0 16 rfl rfl
        rw [rng_len] at hSo
        obtain ⟨a3, c3, rfl, -⟩ := Rd.shape hSo
        clear hM hfe
        replace hSo := hidden hSo
        replace Br := hidden (Br.out.ext hX)
        replace Bq := hidden (Bq.out.ext hX)
        replace hRo := hidden (Rd.ext hRo.out hX)
        replace hE := hidden (hE.out.trans hX)
        clear hX Bq
        obtain ⟨s, hs⟩ : ∃ p, w5.heap.size = p := ⟨_, rfl⟩
        have XN := (Ext.refl w5).alloc (.cells #[.slice ar2 0 cr2', .slice az2 16 cz2, .slice a3 kk c3, .int .i64 (2 + 11 * (kk : Int) + 5)] 48)
        have BN := blk_at1 w5 [.slice ar2 0 cr2', .slice az2 16 cz2, .slice a3 kk c3, .int .i64 (2 + 11 * (kk : Int) + 5)] 48 s hs
        obtain ⟨V5, hV5V⟩ : ∃ V, w5.alloc (.cells #[.slice ar2 0 cr2', .slice az2 16 cz2, .slice a3 kk c3, .int .i64 (2 + 11 * (kk : Int) + 5)] 48) = V := ⟨_, rfl⟩
        rw [show (w5.alloc (.cells ([.slice ar2 0 cr2', .slice az2 16 cz2, .slice a3 kk c3, .int .i64 (2 + 11 * (kk : Int) + 5)] : List Value).toArray 48)) = V5 from hV5V] at BN
        rw [hV5V] at XN
        replace Br := hidden (Br.out.ext XN)
        replace hRo := hidden (Rd.ext hRo.out XN)
        replace hSo := hidden (Rd.ext hSo.out XN)
        replace hE := hidden (hE.out.trans XN)
        have Bs := hidden BN
        clear BN
        clear XN
        replace hV5V := hidden hV5V
        go_upto_region 17 with fail
        rw [hV5V.out]
        clear hV5V hs
        have hsz1 : ∀ w, (sizeOf 5).run Tryz.prog w = .ok 1 w := fun w => by
          obtain ⟨i0, hi, hz0, hz1, hz2⟩ := info_parts u8_info
          simp [go_sem, hi, hz1]
        obtain ⟨a4, c4, hcut, hA4⟩ := cut_h (P := Tryz.prog) Tryz.underlying46 hsz1 hRo.out kk (kk : Int) rfl hkl
        rw [Nat.mul_one, ← List.map_take, rng_take hkl] at hA4
        have hceq : Hid (∀ W', Ext V5 W' → Calls Tryz.prog 26 #[.slice a3 kk c3, .slice a4 kk c4] W' fun x w' => x = .returned (.bool true) ∧ Ext W' w') := hidden (fun W' h => by
          have := eq8_any (.slice a3 kk c3) (.slice a4 kk c4) (rng kk) (rng kk) W' (by rw [rng_len]; exact Rd.ext hSo.out h) (by rw [rng_len]; exact Rd.ext hA4 h)
          simpa using this)
        clear hsz1 hA4
        refine repreg17 _ _ _ _ _ _ _ _ _ _ _ _ _ _ _ _ _ _ _ _ _ _ _ _ _ _ _ _ _ _ _ _ _ _ _ _ _ _ _ _ _ _ _ _ _ _ _ _ _ _ _ _ _ _ _ _ _ _ _ _ _ _ _ _ _ _ _ _ _ _ _ _ _ _ _ _ _ _ _ _ _ _ _ _ _ _ _ _ _ _ _ _ _ _ _ _ _ _ _ _ _ _ _ _ (fun _ _ _ _ _ h => h) (Bs.out.cell 2 _ rfl) (Bs.out.cell 3 _ rfl) (Br.out.cell 2 _ rfl) hcut hceq ?_
        intro w9 hX9
        clear hcut
        go_wp2_with fail
        go_ret
        exact ⟨rfl, hE.out.trans hX9⟩
      · have hlk' : decide ((l : Int) < (k : Int)) = false := by simp; omega
        replace hlk := hidden hlk
        clear hkk
        go_upto_region 16 with fail
        have cq0 := Bq.out.cell 0 _ rfl
        have cq1 := Bq.out.cell 1 _ rfl
        have cq2 := Bq.out.cell 2 _ rfl
        have hfe := hidden (ifeed_any (.slice none 0 0) (.slice a9 13 c9) (.slice none 0 0) [] 1 (brC k l) [] 5000 oka_nil (oki_br (by omega) (by omega) (by omega) (by omega)) (by decide) (by decide) (by decide) (by decide) (fun _ h => by cases h) w4 (rd_none _ _) hC.out (rd_none _ _))
        have hce : cutE k l = .ok ([], z16, rng kk, (2 + 11 * (kk : Int))) := by unfold cutE; rw [hkkI.out, if_neg hlk.out, Int.add_zero]
        rw [br_feed k l (by omega) (by omega), hce] at hfe
        replace hfe := hidden (cal_ok hfe.out)
        clear hce hC
        go_wp2_with fail
        refine (hfe.out).mono ?_
        rintro x w5 ⟨ra, rz2, ro2, rfl, hM, hSo, hX⟩
        clear cq0 cq1 cq2
        obtain ⟨ar2, cr2', az2, cz2, rfl, rfl⟩ := hM.shape 0 16 rfl rfl
        rw [rng_len] at hSo
        obtain ⟨a3, c3, rfl, -⟩ := Rd.shape hSo
        clear hM hfe
        replace hSo := hidden hSo
        replace Br := hidden (Br.out.ext hX)
        replace Bq := hidden (Bq.out.ext hX)
        replace hRo := hidden (Rd.ext hRo.out hX)
        replace hE := hidden (hE.out.trans hX)
        clear hX Bq
        obtain ⟨s, hs⟩ : ∃ p, w5.heap.size = p := ⟨_, rfl⟩
        have XN := (Ext.refl w5).alloc (.cells #[.slice ar2 0 cr2', .slice az2 16 cz2, .slice a3 kk c3, .int .i64 (2 + 11 * (kk : Int))] 48)
        have BN := blk_at1 w5 [.slice ar2 0 cr2', .slice az2 16 cz2, .slice a3 kk c3, .int .i64 (2 + 11 * (kk : Int))] 48 s hs
        obtain ⟨V5, hV5V⟩ : ∃ V, w5.alloc (.cells #[.slice ar2 0 cr2', .slice az2 16 cz2, .slice a3 kk c3, .int .i64 (2 + 11 * (kk : Int))] 48) = V := ⟨_, rfl⟩
        rw [show (w5.alloc (.cells ([.slice ar2 0 cr2', .slice az2 16 cz2, .slice a3 kk c3, .int .i64 (2 + 11 * (kk : Int))] : List Value).toArray 48)) = V5 from hV5V] at BN
        rw [hV5V] at XN
        replace Br := hidden (Br.out.ext XN)
        replace hRo := hidden (Rd.ext hRo.out XN)
        replace hSo := hidden (Rd.ext hSo.out XN)
        replace hE := hidden (hE.out.trans XN)
        have Bs := hidden BN
        clear BN
        clear XN
        replace hV5V := hidden hV5V
        go_upto_region 17 with fail
        rw [hV5V.out]
        clear hV5V hs
        have hsz1 : ∀ w, (sizeOf 5).run Tryz.prog w = .ok 1 w := fun w => by
          obtain ⟨i0, hi, hz0, hz1, hz2⟩ := info_parts u8_info
          simp [go_sem, hi, hz1]
        obtain ⟨a4, c4, hcut, hA4⟩ := cut_h (P := Tryz.prog) Tryz.underlying46 hsz1 hRo.out kk (kk : Int) rfl hkl
        rw [Nat.mul_one, ← List.map_take, rng_take hkl] at hA4
        have hceq : Hid (∀ W', Ext V5 W' → Calls Tryz.prog 26 #[.slice a3 kk c3, .slice a4 kk c4] W' fun x w' => x = .returned (.bool true) ∧ Ext W' w') := hidden (fun W' h => by
          have := eq8_any (.slice a3 kk c3) (.slice a4 kk c4) (rng kk) (rng kk) W' (by rw [rng_len]; exact Rd.ext hSo.out h) (by rw [rng_len]; exact Rd.ext hA4 h)
          simpa using this)
        clear hsz1 hA4
        refine repreg17 _ _ _ _ _ _ _ _ _ _ _ _ _ _ _ _ _ _ _ _ _ _ _ _ _ _ _ _ _ _ _ _ _ _ _ _ _ _ _ _ _ _ _ _ _ _ _ _ _ _ _ _ _ _ _ _ _ _ _ _ _ _ _ _ _ _ _ _ _ _ _ _ _ _ _ _ _ _ _ _ _ _ _ _ _ _ _ _ _ _ _ _ _ _ _ _ _ _ _ _ _ _ _ _ (fun _ _ _ _ _ h => h) (Bs.out.cell 2 _ rfl) (Bs.out.cell 3 _ rfl) (Br.out.cell 2 _ rfl) hcut hceq ?_
        intro w9 hX9
        clear hcut
        go_wp2_with fail
        go_ret
        exact ⟨rfl, hE.out.trans hX9⟩
end Go.Proofs.YtgjjklajipekdaaGreat
