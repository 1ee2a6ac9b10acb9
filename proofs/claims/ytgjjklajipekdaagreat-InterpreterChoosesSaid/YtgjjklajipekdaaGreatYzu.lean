/- Layer 22: a piece of code is put behind a program. -/
import Derived.Test.YtgjjklajipekdaaGreatYzr
import Derived.Test.YtgjjklajipekdaaGreatYzs
import Derived.Test.YtgjjklajipekdaaGreatYzn
namespace Go.Proofs.YtgjjklajipekdaaGreat
open Go.RowKit
set_option linter.unusedVariables false
set_option linter.unusedSimpArgs false
attribute [local go_sem ↓] Go.wp_at_zero Go.wp_at_succ

theorem field_code (a b : Value) (ax : Option Addr) (n c : Nat) (i : Int) (w : World) : (Instr.field 25 (.agg #[.slice none 0 0, .int .i64 i, .slice ax n c]) 2).run Tryz.prog w = .ok (.slice ax n c) w := by kernel_rfl
set_option maxHeartbeats 4000000 in
set_option maxRecDepth 100000 in
theorem chreg3 {Q : Exit → Act → World → Prop} {W : World} {p n cc : Nat} {ac : Option Addr} {C : List (Int × Int)} (t0 t1 t2 t3 t4 t5 t6 t8 t9 t10 t11 t12 t13 t14 t15 t16 t17 t18 t19 t20 t21 t22 t23 t24 t25 t26 t27 t28 t29 t30 t31 t32 t33 t34 t35 t36 t37 t38 t39 t40 t41 t42 t43 t44 t45 t46 t47 t48 t49 t50 t51 t52 t53 t54 t55 t56 t57 t58 t59 t60 t61 t62 t63 t64 t65 t66 t67 t68 t69 t70 t71 t72 t73 t74 t75 t76 t77 t78 : Value)
    (hQ : ∀ (d : Tmp) {c : List PanicEntry} {a : Act} {v : Value} {w : World}, Q (.panic c) (a.put (some d) v) w → Q (.panic c) a w)
    (BP : Hid (Blk W p 25 [.slice none 0 0, .int .i64 0, .slice ac n cc])) (hC : Hid (Cod W (.slice ac n cc) C)) (hlen : Hid (C.length = n)) (hn : n ≤ 500)
    (hk : ∀ (a9 : Option Addr) (c9 : Nat) (w9 : World) (u0 u1 u2 u3 : Value), w9.ownsRow (p + 1) 63 2 (.slice a9 (n + 3) c9) (n + 3) ((C ++ [(28, 0), (0, 2), (34, 0)]).flatMap cI) → Ext W w9 → Blk w9 p 25 [.slice none 0 0, .int .i64 0, .slice ac n cc] →
      Q .normal { tmps := #[t0, t1, t2, t3, t4, t5, t6, .pointer (some ⟨p, 0, none⟩), t8, t9, t10, t11, t12, t13, t14, t15, t16, t17, .pointer (some ⟨p, 2, none⟩), .slice ac n cc, u0, u1, u2, u3, .slice a9 (n + 3) c9, .pointer (some ⟨p, 2, none⟩), t26, t27, t28, t29, t30, t31, t32, t33, t34, t35, t36, t37, t38, t39, t40, t41, t42, t43, t44, t45, t46, t47, t48, t49, t50, t51, t52, t53, t54, t55, t56, t57, t58, t59, t60, t61, t62, t63, t64, t65, t66, t67, t68, t69, t70, t71, t72, t73, t74, t75, t76, t77, t78], defers := [] } (w9.setCell ⟨p, 2, none⟩ (.slice a9 (n + 3) c9))) :
    (Code.region 3 #[{ dst := some 18, op := Op.fieldAddr 25 (Operand.tmp 7) 2, type := 0, pos := "law.go:170", after := #[], guard := none }, { dst := some 19, op := Op.load 23 (Operand.tmp 18), type := 23, pos := "law.go:170", after := #[{ on := 0, ground := Ground.data }], guard := none }, { dst := some 20, op := Op.buildSlice 78 6 #[(0, Operand.const (Value.int IntKind.i64 28)), (1, Operand.const (Value.int IntKind.i64 0)), (2, Operand.const (Value.int IntKind.i64 0)), (3, Operand.const (Value.int IntKind.i64 2)), (4, Operand.const (Value.int IntKind.i64 34)), (5, Operand.const (Value.int IntKind.i64 0))], type := 78, pos := "law.go:170", after := #[], guard := none }, { dst := some 21, op := Op.call { callee := Callee.value (Operand.func 27), args := #[Operand.const (Value.int IntKind.i64 0), Operand.tmp 20], argTypes := #[3, 78] }, type := 25, pos := "law.go:170", after := #[{ on := 2, ground := Ground.data }], guard := none }, { dst := some 22, op := Op.field 25 (Operand.tmp 21) 2, type := 23, pos := "law.go:170", after := #[{ on := 3, ground := Ground.data }], guard := none }, { dst := some 23, op := Op.buildSlice 91 2 #[(0, Operand.tmp 19), (1, Operand.tmp 22)], type := 91, pos := "law.go:170", after := #[{ on := 1, ground := Ground.data }, { on := 4, ground := Ground.data }], guard := none }, { dst := some 24, op := Op.call { callee := Callee.value (Operand.func 25), args := #[Operand.tmp 23], argTypes := #[91] }, type := 23, pos := "law.go:170", after := #[{ on := 5, ground := Ground.data }, { on := 3, ground := Ground.chain }], guard := none }, { dst := some 25, op := Op.fieldAddr 25 (Operand.tmp 7) 2, type := 0, pos := "law.go:170", after := #[{ on := 0, ground := Ground.phase }, { on := 1, ground := Ground.phase }, { on := 2, ground := Ground.phase }, { on := 3, ground := Ground.phase }, { on := 4, ground := Ground.phase }, { on := 5, ground := Ground.phase }, { on := 6, ground := Ground.phase }], guard := none }, { dst := none, op := Op.store 23 (Operand.tmp 25) (Operand.tmp 24), type := 0, pos := "law.go:170", after := #[{ on := 7, ground := Ground.data }, { on := 6, ground := Ground.data }, { on := 6, ground := Ground.chain }, { on := 0, ground := Ground.phase }, { on := 1, ground := Ground.phase }, { on := 2, ground := Ground.phase }, { on := 3, ground := Ground.phase }, { on := 4, ground := Ground.phase }, { on := 5, ground := Ground.phase }, { on := 6, ground := Ground.phase }], guard := none }] true).wp Tryz.prog Q { tmps := #[t0, t1, t2, t3, t4, t5, t6, .pointer (some ⟨p, 0, none⟩), t8, t9, t10, t11, t12, t13, t14, t15, t16, t17, t18, t19, t20, t21, t22, t23, t24, t25, t26, t27, t28, t29, t30, t31, t32, t33, t34, t35, t36, t37, t38, t39, t40, t41, t42, t43, t44, t45, t46, t47, t48, t49, t50, t51, t52, t53, t54, t55, t56, t57, t58, t59, t60, t61, t62, t63, t64, t65, t66, t67, t68, t69, t70, t71, t72, t73, t74, t75, t76, t77, t78], defers := [] } W := by
  have d0 := BP.out.cell 2 _ rfl
  refine wp_region_D (S := fun w' => w'.cell? ⟨p, 2, none⟩ = some (.slice ac n cc)) (D := [8]) (by kernel_rfl) d0 (fun HS => ?_)
  refine takeD 0 [1, 5, 6, 7, 8] (.pointer (some ⟨p, 2, none⟩)) rfl rfl (by kernel_rfl) (by kernel_rfl) (by kernel_rfl) (by kernel_rfl) (by decide) (by decide) (fun _ _ _ h => hQ 18 h) (by rfl) (fun w' hw' => by go_simp) HS ?_
  try simp only [List.setIfInBounds_toArray, List.set_cons_zero, List.set_cons_succ]
  refine takeD 1 [5, 6, 7, 8] (.slice ac n cc) rfl rfl (by kernel_rfl) (by kernel_rfl) (by kernel_rfl) (by kernel_rfl) (by decide) (by decide) (fun _ _ _ h => hQ 19 h) (by rfl) (fun w' hw' => by have hw0 : w'.cell? ⟨p, 2, none⟩ = some (.slice ac n cc) := hw'; go_simp) HS ?_
  try simp only [List.setIfInBounds_toArray, List.set_cons_zero, List.set_cons_succ]
  have XL := (Ext.refl W).drew.alloc (.cells #[.int .i64 28, .int .i64 0, .int .i64 0, .int .i64 2, .int .i64 34, .int .i64 0] 3)
  have e0 := XL.cell d0
  refine valueD 2 (.slice (some ⟨W.heap.size, 0, none⟩) 6 6) rfl rfl (by kernel_rfl) (by rfl) (w' := W.drew.alloc (.cells #[.int .i64 28, .int .i64 0, .int .i64 0, .int .i64 2, .int .i64 34, .int .i64 0] 3)) (by go_simp) (fun _ => e0) ?_
  try simp only [List.setIfInBounds_toArray, List.set_cons_zero, List.set_cons_succ]
  have hR : Rd _ 1 _ 6 _ := rd_newc W.drew [.int .i64 28, .int .i64 0, .int .i64 0, .int .i64 2, .int .i64 34, .int .i64 0] 3 1 6 rfl (by decide)
  have hcl := lcode_any 0 _ [(28, 0), (0, 2), (34, 0)] (by unfold U32; decide) (by decide) _ (show Rd _ 1 _ (2 * ([(28, 0), (0, 2), (34, 0)] : List (Int × Int)).length) (([(28, 0), (0, 2), (34, 0)] : List (Int × Int)).flatMap cL) from hR)
  refine callVD 3 27 #[.int .i64 0, .slice (some ⟨W.heap.size, 0, none⟩) 6 6] rfl rfl (by kernel_rfl) (by rfl) (by go_simp) hcl ?_
  rintro x w2 ⟨vx, rfl, hOx, hX2⟩
  obtain ⟨ax, cx, rfl, -⟩ := own_shape (show World.ownsRow _ _ 63 2 vx 3 _ from hOx)
  have hCx := hidden (show Cod w2 (.slice ax 3 cx) [(28, 0), (0, 2), (34, 0)] from Rd.of_own hOx)
  have X2 := hidden (XL.trans hX2)
  have e2 := hX2.cell e0
  clear hR hcl hOx hX2 XL e0
  refine Or.inl ⟨_, rfl, fun _ => e2, ?_⟩
  try simp only [Act.put, List.setIfInBounds_toArray, List.set_cons_zero, List.set_cons_succ]
  have hfd := fun w' => field_code undef undef ax 3 cx 0 w'
  refine takeD 4 [5, 6, 7, 8] (.slice ax 3 cx) rfl rfl (by kernel_rfl) (by kernel_rfl) (by kernel_rfl) (by kernel_rfl) (by decide) (by decide) (fun _ _ _ h => hQ 22 h) (by rfl) (fun w' hw' => by go_simp) e2 ?_
  try simp only [List.setIfInBounds_toArray, List.set_cons_zero, List.set_cons_succ]
  have XM := (Ext.refl w2).alloc (.cells #[.slice ac n cc, .slice ax 3 cx] 23)
  have e3 := XM.cell e2
  refine valueD 5 (.slice (some ⟨w2.heap.size, 0, none⟩) 2 2) rfl rfl (by kernel_rfl) (by rfl) (w' := w2.alloc (.cells #[.slice ac n cc, .slice ax 3 cx] 23)) (by go_simp) (fun _ => e3) ?_
  try simp only [List.setIfInBounds_toArray, List.set_cons_zero, List.set_cons_succ]
  have hR2 := rd_newc w2 [.slice ac n cc, .slice ax 3 cx] 23 1 2 rfl (by decide)
  have hfl : ([C, [(28, 0), (0, 2), (34, 0)]] : List (List (Int × Int))).flatten = C ++ [(28, 0), (0, 2), (34, 0)] := by simp
  have hcn := concat_any _ [.slice ac n cc, .slice ax 3 cx] [C, [(28, 0), (0, 2), (34, 0)]] _ hR2 (fun i v' C' h1 h2 => by
    match i, h1, h2 with
    | 0, h1, h2 => simp only [List.getElem?_cons_zero, Option.some.injEq] at h1 h2; subst h1; subst h2; exact Rd.ext hC.out (X2.out.trans XM)
    | 1, h1, h2 => simp only [List.getElem?_cons_succ, List.getElem?_cons_zero, Option.some.injEq] at h1 h2; subst h1; subst h2; exact Rd.ext hCx.out XM
    | i + 2, h1, h2 => simp at h1) (by rw [hfl, List.length_append]; simp) (by rw [hfl, List.length_append, hlen.out]; simp; omega) (by simp)
  rw [hfl] at hcn
  have hcn2 := Calls.mono (R' := fun x w' => ∃ v', x = .returned v' ∧ w'.ownsRow (p + 1) 63 2 v' (n + 3) ((C ++ [(28, 0), (0, 2), (34, 0)]).flatMap cI) ∧ Ext W w') hcn (by
    rintro x w' ⟨v', e, h1, h2⟩
    rw [List.length_append, hlen.out] at h1
    refine ⟨v', e, own_mono h1 ?_, (X2.out.trans XM).trans h2⟩
    have := BP.out.lt
    have := (X2.out.trans XM).size
    omega)
  refine callVD 6 25 #[.slice (some ⟨w2.heap.size, 0, none⟩) 2 2] rfl rfl (by kernel_rfl) (by rfl) (by go_simp) hcn2 ?_
  rintro x w9 ⟨v9, rfl, hO9, hX9⟩
  obtain ⟨a9, c9, rfl, -⟩ := own_shape hO9
  have e9 := hX9.cell d0
  have B9 := BP.out.ext hX9
  have f9 := B9.frozen 2
  clear hcn hcn2 hR2 e3 e2
  refine Or.inl ⟨_, rfl, fun _ => e9, ?_⟩
  try simp only [Act.put, List.setIfInBounds_toArray, List.set_cons_zero, List.set_cons_succ]
  refine takeD 7 [8] (.pointer (some ⟨p, 2, none⟩)) rfl rfl (by kernel_rfl) (by kernel_rfl) (by kernel_rfl) (by kernel_rfl) (by decide) (by decide) (fun _ _ _ h => hQ 25 h) (by rfl) (fun w' hw' => by go_simp) e9 ?_
  try simp only [List.setIfInBounds_toArray, List.set_cons_zero, List.set_cons_succ]
  refine storeD 8 rfl rfl (by kernel_rfl) (by rfl) (w' := w9.setCell ⟨p, 2, none⟩ (.slice a9 (n + 3) c9)) (by go_simp) (fun h => absurd (by decide) h) ?_
  refine wpAnyD_done (by kernel_rfl) ?_ _
  exact hk a9 c9 w9 _ _ _ _ hO9 hX9 B9
set_option maxHeartbeats 4000000 in
set_option maxRecDepth 100000 in
theorem chreg4 {Q : Exit → Act → World → Prop} {W : World} {p n cc : Nat} {ac : Option Addr} {C : List (Int × Int)} (t0 t1 t2 t3 t4 t5 t6 t8 t9 t10 t11 t12 t13 t14 t15 t16 t17 t18 t19 t20 t21 t22 t23 t24 t25 t26 t27 t28 t29 t30 t31 t32 t33 t34 t35 t36 t37 t38 t39 t40 t41 t42 t43 t44 t45 t46 t47 t48 t49 t50 t51 t52 t53 t54 t55 t56 t57 t58 t59 t60 t61 t62 t63 t64 t65 t66 t67 t68 t69 t70 t71 t72 t73 t74 t75 t76 t77 t78 : Value)
    (hQ : ∀ (d : Tmp) {c : List PanicEntry} {a : Act} {v : Value} {w : World}, Q (.panic c) (a.put (some d) v) w → Q (.panic c) a w)
    (BP : Hid (Blk W p 25 [.slice none 0 0, .int .i64 0, .slice ac n cc])) (hC : Hid (Cod W (.slice ac n cc) C)) (hlen : Hid (C.length = n)) (hn : n ≤ 500)
    (hk : ∀ (a9 : Option Addr) (c9 : Nat) (w9 : World) (u0 u1 u2 u3 : Value), w9.ownsRow (p + 1) 63 2 (.slice a9 (n + 3) c9) (n + 3) ((C ++ [(31, 0), (0, 3), (34, 0)]).flatMap cI) → Ext W w9 → Blk w9 p 25 [.slice none 0 0, .int .i64 0, .slice ac n cc] →
      Q .normal { tmps := #[t0, t1, t2, t3, t4, t5, t6, .pointer (some ⟨p, 0, none⟩), t8, t9, t10, t11, t12, t13, t14, t15, t16, t17, t18, t19, t20, t21, t22, t23, t24, t25, .pointer (some ⟨p, 2, none⟩), .slice ac n cc, u0, u1, u2, u3, .slice a9 (n + 3) c9, .pointer (some ⟨p, 2, none⟩), t34, t35, t36, t37, t38, t39, t40, t41, t42, t43, t44, t45, t46, t47, t48, t49, t50, t51, t52, t53, t54, t55, t56, t57, t58, t59, t60, t61, t62, t63, t64, t65, t66, t67, t68, t69, t70, t71, t72, t73, t74, t75, t76, t77, t78], defers := [] } (w9.setCell ⟨p, 2, none⟩ (.slice a9 (n + 3) c9))) :
    (Code.region 4 #[{ dst := some 26, op := Op.fieldAddr 25 (Operand.tmp 7) 2, type := 0, pos := "law.go:172", after := #[], guard := none }, { dst := some 27, op := Op.load 23 (Operand.tmp 26), type := 23, pos := "law.go:172", after := #[{ on := 0, ground := Ground.data }], guard := none }, { dst := some 28, op := Op.buildSlice 78 6 #[(0, Operand.const (Value.int IntKind.i64 31)), (1, Operand.const (Value.int IntKind.i64 0)), (2, Operand.const (Value.int IntKind.i64 0)), (3, Operand.const (Value.int IntKind.i64 3)), (4, Operand.const (Value.int IntKind.i64 34)), (5, Operand.const (Value.int IntKind.i64 0))], type := 78, pos := "law.go:172", after := #[], guard := none }, { dst := some 29, op := Op.call { callee := Callee.value (Operand.func 27), args := #[Operand.const (Value.int IntKind.i64 0), Operand.tmp 28], argTypes := #[3, 78] }, type := 25, pos := "law.go:172", after := #[{ on := 2, ground := Ground.data }], guard := none }, { dst := some 30, op := Op.field 25 (Operand.tmp 29) 2, type := 23, pos := "law.go:172", after := #[{ on := 3, ground := Ground.data }], guard := none }, { dst := some 31, op := Op.buildSlice 91 2 #[(0, Operand.tmp 27), (1, Operand.tmp 30)], type := 91, pos := "law.go:172", after := #[{ on := 1, ground := Ground.data }, { on := 4, ground := Ground.data }], guard := none }, { dst := some 32, op := Op.call { callee := Callee.value (Operand.func 25), args := #[Operand.tmp 31], argTypes := #[91] }, type := 23, pos := "law.go:172", after := #[{ on := 5, ground := Ground.data }, { on := 3, ground := Ground.chain }], guard := none }, { dst := some 33, op := Op.fieldAddr 25 (Operand.tmp 7) 2, type := 0, pos := "law.go:172", after := #[{ on := 0, ground := Ground.phase }, { on := 1, ground := Ground.phase }, { on := 2, ground := Ground.phase }, { on := 3, ground := Ground.phase }, { on := 4, ground := Ground.phase }, { on := 5, ground := Ground.phase }, { on := 6, ground := Ground.phase }], guard := none }, { dst := none, op := Op.store 23 (Operand.tmp 33) (Operand.tmp 32), type := 0, pos := "law.go:172", after := #[{ on := 7, ground := Ground.data }, { on := 6, ground := Ground.data }, { on := 6, ground := Ground.chain }, { on := 0, ground := Ground.phase }, { on := 1, ground := Ground.phase }, { on := 2, ground := Ground.phase }, { on := 3, ground := Ground.phase }, { on := 4, ground := Ground.phase }, { on := 5, ground := Ground.phase }, { on := 6, ground := Ground.phase }], guard := none }] true).wp Tryz.prog Q { tmps := #[t0, t1, t2, t3, t4, t5, t6, .pointer (some ⟨p, 0, none⟩), t8, t9, t10, t11, t12, t13, t14, t15, t16, t17, t18, t19, t20, t21, t22, t23, t24, t25, t26, t27, t28, t29, t30, t31, t32, t33, t34, t35, t36, t37, t38, t39, t40, t41, t42, t43, t44, t45, t46, t47, t48, t49, t50, t51, t52, t53, t54, t55, t56, t57, t58, t59, t60, t61, t62, t63, t64, t65, t66, t67, t68, t69, t70, t71, t72, t73, t74, t75, t76, t77, t78], defers := [] } W := by
  have d0 := BP.out.cell 2 _ rfl
  refine wp_region_D (S := fun w' => w'.cell? ⟨p, 2, none⟩ = some (.slice ac n cc)) (D := [8]) (by kernel_rfl) d0 (fun HS => ?_)
  refine takeD 0 [1, 5, 6, 7, 8] (.pointer (some ⟨p, 2, none⟩)) rfl rfl (by kernel_rfl) (by kernel_rfl) (by kernel_rfl) (by kernel_rfl) (by decide) (by decide) (fun _ _ _ h => hQ 26 h) (by rfl) (fun w' hw' => by go_simp) HS ?_
  try simp only [List.setIfInBounds_toArray, List.set_cons_zero, List.set_cons_succ]
  refine takeD 1 [5, 6, 7, 8] (.slice ac n cc) rfl rfl (by kernel_rfl) (by kernel_rfl) (by kernel_rfl) (by kernel_rfl) (by decide) (by decide) (fun _ _ _ h => hQ 27 h) (by rfl) (fun w' hw' => by have hw0 : w'.cell? ⟨p, 2, none⟩ = some (.slice ac n cc) := hw'; go_simp) HS ?_
  try simp only [List.setIfInBounds_toArray, List.set_cons_zero, List.set_cons_succ]
  have XL := (Ext.refl W).drew.alloc (.cells #[.int .i64 31, .int .i64 0, .int .i64 0, .int .i64 3, .int .i64 34, .int .i64 0] 3)
  have e0 := XL.cell d0
  refine valueD 2 (.slice (some ⟨W.heap.size, 0, none⟩) 6 6) rfl rfl (by kernel_rfl) (by rfl) (w' := W.drew.alloc (.cells #[.int .i64 31, .int .i64 0, .int .i64 0, .int .i64 3, .int .i64 34, .int .i64 0] 3)) (by go_simp) (fun _ => e0) ?_
  try simp only [List.setIfInBounds_toArray, List.set_cons_zero, List.set_cons_succ]
  have hR : Rd _ 1 _ 6 _ := rd_newc W.drew [.int .i64 31, .int .i64 0, .int .i64 0, .int .i64 3, .int .i64 34, .int .i64 0] 3 1 6 rfl (by decide)
  have hcl := lcode_any 0 _ [(31, 0), (0, 3), (34, 0)] (by unfold U32; decide) (by decide) _ (show Rd _ 1 _ (2 * ([(31, 0), (0, 3), (34, 0)] : List (Int × Int)).length) (([(31, 0), (0, 3), (34, 0)] : List (Int × Int)).flatMap cL) from hR)
  refine callVD 3 27 #[.int .i64 0, .slice (some ⟨W.heap.size, 0, none⟩) 6 6] rfl rfl (by kernel_rfl) (by rfl) (by go_simp) hcl ?_
  rintro x w2 ⟨vx, rfl, hOx, hX2⟩
  obtain ⟨ax, cx, rfl, -⟩ := own_shape (show World.ownsRow _ _ 63 2 vx 3 _ from hOx)
  have hCx := hidden (show Cod w2 (.slice ax 3 cx) [(31, 0), (0, 3), (34, 0)] from Rd.of_own hOx)
  have X2 := hidden (XL.trans hX2)
  have e2 := hX2.cell e0
  clear hR hcl hOx hX2 XL e0
  refine Or.inl ⟨_, rfl, fun _ => e2, ?_⟩
  try simp only [Act.put, List.setIfInBounds_toArray, List.set_cons_zero, List.set_cons_succ]
  have hfd := fun w' => field_code undef undef ax 3 cx 0 w'
  refine takeD 4 [5, 6, 7, 8] (.slice ax 3 cx) rfl rfl (by kernel_rfl) (by kernel_rfl) (by kernel_rfl) (by kernel_rfl) (by decide) (by decide) (fun _ _ _ h => hQ 30 h) (by rfl) (fun w' hw' => by go_simp) e2 ?_
  try simp only [List.setIfInBounds_toArray, List.set_cons_zero, List.set_cons_succ]
  have XM := (Ext.refl w2).alloc (.cells #[.slice ac n cc, .slice ax 3 cx] 23)
  have e3 := XM.cell e2
  refine valueD 5 (.slice (some ⟨w2.heap.size, 0, none⟩) 2 2) rfl rfl (by kernel_rfl) (by rfl) (w' := w2.alloc (.cells #[.slice ac n cc, .slice ax 3 cx] 23)) (by go_simp) (fun _ => e3) ?_
  try simp only [List.setIfInBounds_toArray, List.set_cons_zero, List.set_cons_succ]
  have hR2 := rd_newc w2 [.slice ac n cc, .slice ax 3 cx] 23 1 2 rfl (by decide)
  have hfl : ([C, [(31, 0), (0, 3), (34, 0)]] : List (List (Int × Int))).flatten = C ++ [(31, 0), (0, 3), (34, 0)] := by simp
  have hcn := concat_any _ [.slice ac n cc, .slice ax 3 cx] [C, [(31, 0), (0, 3), (34, 0)]] _ hR2 (fun i v' C' h1 h2 => by
    match i, h1, h2 with
    | 0, h1, h2 => simp only [List.getElem?_cons_zero, Option.some.injEq] at h1 h2; subst h1; subst h2; exact Rd.ext hC.out (X2.out.trans XM)
    | 1, h1, h2 => simp only [List.getElem?_cons_succ, List.getElem?_cons_zero, Option.some.injEq] at h1 h2; subst h1; subst h2; exact Rd.ext hCx.out XM
    | i + 2, h1, h2 => simp at h1) (by rw [hfl, List.length_append]; simp) (by rw [hfl, List.length_append, hlen.out]; simp; omega) (by simp)
  rw [hfl] at hcn
  have hcn2 := Calls.mono (R' := fun x w' => ∃ v', x = .returned v' ∧ w'.ownsRow (p + 1) 63 2 v' (n + 3) ((C ++ [(31, 0), (0, 3), (34, 0)]).flatMap cI) ∧ Ext W w') hcn (by
    rintro x w' ⟨v', e, h1, h2⟩
    rw [List.length_append, hlen.out] at h1
    refine ⟨v', e, own_mono h1 ?_, (X2.out.trans XM).trans h2⟩
    have := BP.out.lt
    have := (X2.out.trans XM).size
    omega)
  refine callVD 6 25 #[.slice (some ⟨w2.heap.size, 0, none⟩) 2 2] rfl rfl (by kernel_rfl) (by rfl) (by go_simp) hcn2 ?_
  rintro x w9 ⟨v9, rfl, hO9, hX9⟩
  obtain ⟨a9, c9, rfl, -⟩ := own_shape hO9
  have e9 := hX9.cell d0
  have B9 := BP.out.ext hX9
  have f9 := B9.frozen 2
  clear hcn hcn2 hR2 e3 e2
  refine Or.inl ⟨_, rfl, fun _ => e9, ?_⟩
  try simp only [Act.put, List.setIfInBounds_toArray, List.set_cons_zero, List.set_cons_succ]
  refine takeD 7 [8] (.pointer (some ⟨p, 2, none⟩)) rfl rfl (by kernel_rfl) (by kernel_rfl) (by kernel_rfl) (by kernel_rfl) (by decide) (by decide) (fun _ _ _ h => hQ 33 h) (by rfl) (fun w' hw' => by go_simp) e9 ?_
  try simp only [List.setIfInBounds_toArray, List.set_cons_zero, List.set_cons_succ]
  refine storeD 8 rfl rfl (by kernel_rfl) (by rfl) (w' := w9.setCell ⟨p, 2, none⟩ (.slice a9 (n + 3) c9)) (by go_simp) (fun h => absurd (by decide) h) ?_
  refine wpAnyD_done (by kernel_rfl) ?_ _
  exact hk a9 c9 w9 _ _ _ _ hO9 hX9 B9
end Go.Proofs.YtgjjklajipekdaaGreat
