/- Layer 22: the law that feeding is running byte by byte: a round's end. -/
import Derived.Test.YtgjjklajipekdaaGreatYzo
namespace Go.Proofs.YtgjjklajipekdaaGreat
open Go.RowKit
set_option linter.unusedVariables false
set_option linter.unusedSimpArgs false
attribute [local go_sem ↓] Go.wp_at_zero Go.wp_at_succ

set_option maxHeartbeats 4000000 in
set_option maxRecDepth 100000 in
theorem split20 {Q : Exit → Act → World → Prop} {W : World} {m g n3 d3 j1 j2 j3 : Nat} {g1' g2' g3' : Nat} {e3 f1 f2 f3 : Option Addr} {st j4 : Int} {v0 v1 : Value} {xs news : List Value} (t0 t1 t2 t3 t4 t5 t6 t8 t11 t12 t14 t15 t16 t17 t18 t19 t20 t21 t22 t23 t24 t25 t26 t27 t28 t29 t30 t31 t32 t33 t34 t35 t36 t37 t38 t39 t40 t41 t42 t43 t44 t45 t46 t47 t48 t49 t50 t51 t52 t53 t54 t55 t56 t57 t58 t59 t60 t61 t62 t63 t64 t65 t66 t67 t68 t69 t70 t71 t72 t73 t74 t75 t76 t77 t78 t79 t80 t81 t82 t83 t84 t85 t86 t87 t88 t89 t90 t91 t92 t93 t94 t95 t96 t97 t98 t99 t100 t101 t102 t103 t104 t105 t106 t107 t108 t109 t110 t111 t112 t113 t114 t115 t116 t117 t118 : Value)
    (hQ : ∀ (d : Tmp) {c : List PanicEntry} {a : Act} {v : Value} {w : World}, Q (.panic c) (a.put (some d) v) w → Q (.panic c) a w)
    (hgm : g ≠ m)
    (Z8 : Hid (Blk W m 29 [v0, v1])) (G8 : Hid (Blk W g 48 [.slice f1 j1 g1', .slice f2 j2 g2', .slice f3 j3 g3', .int .i64 j4]))
    (Oz : Hid (W.ownsRow (m + 1) 5 1 (.slice e3 n3 d3) n3 xs)) (hnews : Hid (Rd W 1 (.slice f3 j3 g3') j3 news)) (hone : ∀ u ∈ news, u.oneCell' = true) (hn3 : n3 ≤ 65536) (hj3 : j3 ≤ 65536) (hst4 : IntKind.i64.wrap (st + j4) = st + j4)
    (hk : ∀ (a9 : Option Addr) (c9 : Nat) (w9 : World), w9.ownsRow (m + 1) 5 1 (.slice a9 (n3 + j3) c9) (n3 + j3) (xs ++ news) → W.drew.grownBy w9 (Value.slice e3 n3 d3).ownBlock → ((Value.slice a9 (n3 + j3) c9).ownBlock = (Value.slice e3 n3 d3).ownBlock ∨ (Value.slice a9 (n3 + j3) c9).ownBlock = some W.drew.heap.size) → Blk w9 m 29 [v0, v1] →
      Q .normal { tmps := #[t0, t1, t2, t3, t4, t5, t6, .pointer (some ⟨m, 0, none⟩), t8, .slice a9 (n3 + j3) c9, .int .i64 (st + j4), t11, t12, .pointer (some ⟨g, 0, none⟩), t14, t15, t16, t17, t18, t19, t20, t21, t22, t23, t24, t25, t26, t27, t28, t29, t30, t31, t32, t33, t34, t35, t36, t37, t38, t39, t40, t41, t42, t43, t44, t45, t46, t47, t48, t49, t50, t51, t52, t53, t54, t55, t56, t57, t58, t59, t60, t61, t62, t63, t64, t65, t66, t67, t68, t69, t70, t71, t72, t73, t74, t75, t76, t77, t78, t79, t80, t81, t82, t83, t84, t85, t86, t87, t88, t89, t90, t91, t92, t93, t94, t95, .pointer (some ⟨g, 0, none⟩), .agg #[.slice f1 j1 g1', .slice f2 j2 g2'], .slice e3 n3 d3, .pointer (some ⟨g, 2, none⟩), .slice f3 j3 g3', .slice a9 (n3 + j3) c9, .int .i64 st, .pointer (some ⟨g, 3, none⟩), .int .i64 j4, .int .i64 (st + j4), t106, t107, t108, t109, t110, t111, t112, t113, t114, t115, t116, t117, t118], defers := [] } ((w9.setCell ⟨m, 0, none⟩ (.slice f1 j1 g1')).setCell ⟨m, 1, none⟩ (.slice f2 j2 g2'))) :
    (Code.region 20 #[{ dst := some 96, op := Op.fieldAddr 48 (Operand.tmp 13) 0, type := 0, pos := "law.go:99", after := #[], guard := none }, { dst := some 97, op := Op.load 29 (Operand.tmp 96), type := 29, pos := "law.go:99", after := #[{ on := 0, ground := Ground.data }], guard := none }, { dst := some 98, op := Op.move (Operand.tmp 9), type := 46, pos := "law.go:99", after := #[], guard := none }, { dst := some 99, op := Op.fieldAddr 48 (Operand.tmp 13) 1, type := 0, pos := "law.go:99", after := #[], guard := none }, { dst := some 100, op := Op.load 46 (Operand.tmp 99), type := 46, pos := "law.go:99", after := #[{ on := 3, ground := Ground.data }], guard := none }, { dst := some 101, op := Op.call { callee := Callee.builtin Builtin.append, args := #[Operand.tmp 98, Operand.tmp 100], argTypes := #[46, 46] }, type := 46, pos := "law.go:99", after := #[{ on := 2, ground := Ground.data }, { on := 4, ground := Ground.data }], guard := none }, { dst := some 102, op := Op.move (Operand.tmp 10), type := 3, pos := "law.go:99", after := #[{ on := 11, ground := Ground.gcOnly Departure.lateStores }], guard := none }, { dst := some 103, op := Op.fieldAddr 48 (Operand.tmp 13) 2, type := 0, pos := "law.go:99", after := #[{ on := 11, ground := Ground.gcOnly Departure.lateStores }], guard := none }, { dst := some 104, op := Op.load 3 (Operand.tmp 103), type := 3, pos := "law.go:99", after := #[{ on := 7, ground := Ground.data }, { on := 11, ground := Ground.gcOnly Departure.lateStores }], guard := none }, { dst := some 105, op := Op.binOp BinOp.add 3 (Operand.tmp 102) (Operand.tmp 104) 3, type := 3, pos := "law.go:99", after := #[{ on := 6, ground := Ground.data }, { on := 8, ground := Ground.data }, { on := 11, ground := Ground.gcOnly Departure.lateStores }], guard := none }, { dst := none, op := Op.store 29 (Operand.tmp 7) (Operand.tmp 97), type := 0, pos := "law.go:99", after := #[{ on := 1, ground := Ground.data }, { on := 5, ground := Ground.chain }, { on := 0, ground := Ground.phase }, { on := 1, ground := Ground.phase }, { on := 2, ground := Ground.textOnly Departure.lateStores }, { on := 3, ground := Ground.textOnly Departure.lateStores }, { on := 4, ground := Ground.textOnly Departure.lateStores }, { on := 5, ground := Ground.textOnly Departure.lateStoresUnsure }, { on := 6, ground := Ground.textOnly Departure.lateStores }, { on := 7, ground := Ground.textOnly Departure.lateStores }, { on := 8, ground := Ground.textOnly Departure.lateStores }, { on := 9, ground := Ground.textOnly Departure.lateStores }], guard := none }, { dst := some 9, op := Op.assign (Operand.tmp 101), type := 46, pos := "law.go:99", after := #[{ on := 5, ground := Ground.data }, { on := 10, ground := Ground.chain }, { on := 0, ground := Ground.phase }, { on := 1, ground := Ground.phase }, { on := 2, ground := Ground.phase }, { on := 3, ground := Ground.phase }, { on := 4, ground := Ground.phase }, { on := 5, ground := Ground.phase }, { on := 6, ground := Ground.textOnly Departure.lateStores }, { on := 7, ground := Ground.textOnly Departure.lateStores }, { on := 8, ground := Ground.textOnly Departure.lateStores }, { on := 9, ground := Ground.textOnly Departure.lateStores }, { on := 10, ground := Ground.phase }], guard := none }, { dst := some 10, op := Op.assign (Operand.tmp 105), type := 3, pos := "law.go:99", after := #[{ on := 9, ground := Ground.data }, { on := 11, ground := Ground.chain }, { on := 0, ground := Ground.phase }, { on := 1, ground := Ground.phase }, { on := 2, ground := Ground.phase }, { on := 3, ground := Ground.phase }, { on := 4, ground := Ground.phase }, { on := 5, ground := Ground.phase }, { on := 6, ground := Ground.phase }, { on := 7, ground := Ground.phase }, { on := 8, ground := Ground.phase }, { on := 9, ground := Ground.phase }, { on := 10, ground := Ground.phase }, { on := 11, ground := Ground.phase }], guard := none }] true).wp Tryz.prog Q { tmps := #[t0, t1, t2, t3, t4, t5, t6, .pointer (some ⟨m, 0, none⟩), t8, .slice e3 n3 d3, .int .i64 st, t11, t12, .pointer (some ⟨g, 0, none⟩), t14, t15, t16, t17, t18, t19, t20, t21, t22, t23, t24, t25, t26, t27, t28, t29, t30, t31, t32, t33, t34, t35, t36, t37, t38, t39, t40, t41, t42, t43, t44, t45, t46, t47, t48, t49, t50, t51, t52, t53, t54, t55, t56, t57, t58, t59, t60, t61, t62, t63, t64, t65, t66, t67, t68, t69, t70, t71, t72, t73, t74, t75, t76, t77, t78, t79, t80, t81, t82, t83, t84, t85, t86, t87, t88, t89, t90, t91, t92, t93, t94, t95, t96, t97, t98, t99, t100, t101, t102, t103, t104, t105, t106, t107, t108, t109, t110, t111, t112, t113, t114, t115, t116, t117, t118], defers := [] } W := by
  obtain ⟨i1, hi1, hy0, hy1, hy2⟩ := info_parts u8_info
  have hib := hidden hi1
  have m0 := G8.out.cell 0 _ rfl
  have m1 := G8.out.cell 1 _ rfl
  have m2 := G8.out.cell 2 _ rfl
  have m3 := G8.out.cell 3 _ rfl
  have hzb : m + 1 ≤ W.drew.heap.size := Z8.out.lt
  refine wp_region_D (S := fun w' => w'.cell? ⟨g, 0, none⟩ = some (.slice f1 j1 g1') ∧ w'.cell? ⟨g, 1, none⟩ = some (.slice f2 j2 g2') ∧ w'.cell? ⟨g, 2, none⟩ = some (.slice f3 j3 g3') ∧ w'.cell? ⟨g, 3, none⟩ = some (.int .i64 j4)) (D := []) (by kernel_rfl) ⟨m0, m1, m2, m3⟩ (fun HS => ?_)
  refine takeD 0 [] (.pointer (some ⟨g, 0, none⟩)) rfl rfl (by kernel_rfl) (by kernel_rfl) (by kernel_rfl) (by kernel_rfl) (by decide) (by decide) (fun _ _ _ h => hQ 96 h) (by rfl) (fun w' hw' => by go_simp) HS ?_
  try simp only [List.setIfInBounds_toArray, List.set_cons_zero, List.set_cons_succ]
  refine takeD 1 [] (.agg #[.slice f1 j1 g1', .slice f2 j2 g2']) rfl rfl (by kernel_rfl) (by kernel_rfl) (by kernel_rfl) (by kernel_rfl) (by decide) (by decide) (fun _ _ _ h => hQ 97 h) (by rfl) (fun w' hw' => by go_simp) HS ?_
  try simp only [List.setIfInBounds_toArray, List.set_cons_zero, List.set_cons_succ]
  refine takeD 2 [] (.slice e3 n3 d3) rfl rfl (by kernel_rfl) (by kernel_rfl) (by kernel_rfl) (by kernel_rfl) (by decide) (by decide) (fun _ _ _ h => hQ 98 h) (by rfl) (fun w' hw' => by go_simp) HS ?_
  try simp only [List.setIfInBounds_toArray, List.set_cons_zero, List.set_cons_succ]
  refine takeD 3 [] (.pointer (some ⟨g, 2, none⟩)) rfl rfl (by kernel_rfl) (by kernel_rfl) (by kernel_rfl) (by kernel_rfl) (by decide) (by decide) (fun _ _ _ h => hQ 99 h) (by rfl) (fun w' hw' => by go_simp) HS ?_
  try simp only [List.setIfInBounds_toArray, List.set_cons_zero, List.set_cons_succ]
  refine takeD 4 [] (.slice f3 j3 g3') rfl rfl (by kernel_rfl) (by kernel_rfl) (by kernel_rfl) (by kernel_rfl) (by decide) (by decide) (fun _ _ _ h => hQ 100 h) (by rfl) (fun w' hw' => by obtain ⟨hw0, hw1, hw2, hw3⟩ := hw'; go_simp) HS ?_
  try simp only [List.setIfInBounds_toArray, List.set_cons_zero, List.set_cons_succ]
  refine takeD 6 [] (.int .i64 st) rfl rfl (by kernel_rfl) (by kernel_rfl) (by kernel_rfl) (by kernel_rfl) (by decide) (by decide) (fun _ _ _ h => hQ 102 h) (by rfl) (fun w' hw' => by go_simp) HS ?_
  try simp only [List.setIfInBounds_toArray, List.set_cons_zero, List.set_cons_succ]
  refine takeD 7 [] (.pointer (some ⟨g, 3, none⟩)) rfl rfl (by kernel_rfl) (by kernel_rfl) (by kernel_rfl) (by kernel_rfl) (by decide) (by decide) (fun _ _ _ h => hQ 103 h) (by rfl) (fun w' hw' => by go_simp) HS ?_
  try simp only [List.setIfInBounds_toArray, List.set_cons_zero, List.set_cons_succ]
  refine takeD 8 [] (.int .i64 j4) rfl rfl (by kernel_rfl) (by kernel_rfl) (by kernel_rfl) (by kernel_rfl) (by decide) (by decide) (fun _ _ _ h => hQ 104 h) (by rfl) (fun w' hw' => by obtain ⟨hw0, hw1, hw2, hw3⟩ := hw'; go_simp) HS ?_
  try simp only [List.setIfInBounds_toArray, List.set_cons_zero, List.set_cons_succ]
  refine takeD 9 [] (.int .i64 (st + j4)) rfl rfl (by kernel_rfl) (by kernel_rfl) (by kernel_rfl) (by kernel_rfl) (by decide) (by decide) (fun _ _ _ h => hQ 105 h) (by rfl) (fun w' hw' => by go_simp) HS ?_
  try simp only [List.setIfInBounds_toArray, List.set_cons_zero, List.set_cons_succ]
  refine appendD0 5 rfl rfl rfl (by kernel_rfl) _ _ 46 (by rfl) (m + 1) 5 i1 (.int .u8 0) 1 1 Tryz.underlying46 hib.out hy0 hy1 hy2 rfl (by decide) (.slice e3 n3 d3) n3 xs (by rfl) (own_ext Oz.out (Ext.refl W).drew) f3 j3 g3' news (by rfl) (Rd.ext hnews.out (Ext.refl W).drew) hone (by unfold maxLen; omega) (by omega) hzb ?_
  intro v'' w9 hown9 hgrow9 hat9
  obtain ⟨a9, c9, rfl, k91, k92, -⟩ := own_shape hown9
  have c90 : Chg (Value.slice e3 n3 d3).ownBlock.toList W.drew w9 := (Chg.refl _ _).grown hgrow9 (fun k hk => Or.inl (by simp [hk]))
  have hzq : m ∉ (Value.slice e3 n3 d3).ownBlock.toList := fun hm => own_ne_blk Oz.out Z8.out (by decide) (by simpa using hm)
  have hgq : g ∉ (Value.slice e3 n3 d3).ownBlock.toList := fun hm => own_ne_blk Oz.out G8.out (by decide) (by simpa using hm)
  replace HS := And.intro (c90.cell hgq HS.1) (And.intro (c90.cell hgq HS.2.1) (And.intro (c90.cell hgq HS.2.2.1) (c90.cell hgq HS.2.2.2)))
  have Z9 := Z8.out.drew.chg c90 hzq
  have w0' := Z9.cell 0 _ rfl
  have w1' := Z9.cell 1 _ rfl
  have x0' := Z9.frozen 0
  have x1' := Z9.frozen 1
  have cm : Chg [m] w9 ((w9.setCell ⟨m, 0, none⟩ (.slice f1 j1 g1')).setCell ⟨m, 1, none⟩ (.slice f2 j2 g2')) := ((Chg.refl _ _).setCell (p := ⟨m, 0, none⟩) (Or.inl (by simp)) _).setCell (p := ⟨m, 1, none⟩) (Or.inl (by simp)) _
  have hgm' : g ∉ [m] := by simpa using hgm
  have HS2 := And.intro (cm.cell hgm' HS.1) (And.intro (cm.cell hgm' HS.2.1) (And.intro (cm.cell hgm' HS.2.2.1) (cm.cell hgm' HS.2.2.2)))
  clear cm hgm'
  refine ⟨fun _ => HS, ?_⟩
  try simp only [List.setIfInBounds_toArray, List.set_cons_zero, List.set_cons_succ]
  refine storeD 10 rfl rfl (by kernel_rfl) (by rfl) (w' := ((w9.setCell ⟨m, 0, none⟩ (.slice f1 j1 g1')).setCell ⟨m, 1, none⟩ (.slice f2 j2 g2'))) (by go_simp) (fun _ => HS2) ?_
  refine valueD 11 (.slice a9 (n3 + j3) c9) rfl rfl (by kernel_rfl) (by rfl) (w' := ((w9.setCell ⟨m, 0, none⟩ (.slice f1 j1 g1')).setCell ⟨m, 1, none⟩ (.slice f2 j2 g2'))) (by go_simp) (fun _ => HS2) ?_
  try simp only [List.setIfInBounds_toArray, List.set_cons_zero, List.set_cons_succ]
  refine valueD 12 (.int .i64 (st + j4)) rfl rfl (by kernel_rfl) (by rfl) (w' := ((w9.setCell ⟨m, 0, none⟩ (.slice f1 j1 g1')).setCell ⟨m, 1, none⟩ (.slice f2 j2 g2'))) (by go_simp) (fun _ => HS2) ?_
  try simp only [List.setIfInBounds_toArray, List.set_cons_zero, List.set_cons_succ]
  refine wpAnyD_done (by kernel_rfl) ?_ _
  exact hk a9 c9 w9 hown9 hgrow9 hat9 Z9
end Go.Proofs.YtgjjklajipekdaaGreat
