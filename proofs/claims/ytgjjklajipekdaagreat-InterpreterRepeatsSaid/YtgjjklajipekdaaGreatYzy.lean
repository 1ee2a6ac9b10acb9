/- Layer 22: a program is cut, and made anew with a leave. -/
import Derived.Test.YtgjjklajipekdaaGreatYzr
import Derived.Test.YtgjjklajipekdaaGreatYzt
import Derived.Test.YtgjjklajipekdaaGreatYzn
namespace Go.Proofs.YtgjjklajipekdaaGreat
open Go.RowKit
set_option linter.unusedVariables false
set_option linter.unusedSimpArgs false
attribute [local go_sem ↓] Go.wp_at_zero Go.wp_at_succ

section
variable {P : Program} {md : Region.Mode} {ops : Array Oper} {Q : Exit → Act → World → Prop} {S : World → Prop}
/-- One of several operations that may come up. -/
theorem valueW {D : List Nat} (i : Nat) (v : Value) {oi : Oper} {d : Tmp} {fuel : Nat} {listed : Array Bool} {a : Act} {w w' : World} (hi : ops[i]? = some oi) (hd : oi.dst = some d)
    (hw : Region.wanted oi (yielded ops a.tmps) = true) (hrun : (execOp a.eval oi).run P w = .ok (.value v) w') (hS : i ∉ D → S w')
    (h : wpAnyD P md ops Q S D fuel (listed.setIfInBounds i true) { a with tmps := a.tmps.setIfInBounds d v } w') : wpOp P ops Q i (fun a' w' => (i ∉ D → S w') ∧ wpAnyD P md ops Q S D fuel (listed.setIfInBounds i true) a' w') a w := by
  unfold wpOp
  simp only [hi, hw, if_true]
  left
  unfold Oper.wp
  rw [hrun]
  show (i ∉ D → S w') ∧ wpAnyD P md ops Q S D fuel _ (a.put oi.dst v) w'
  rw [hd]
  exact ⟨hS, h⟩
theorem callW {D : List Nat} (i : Nat) {oi : Oper} {d : Tmp} {fuel : Nat} {listed : Array Bool} {a : Act} {w : World} (f : FuncId) (args : Array Value) {R : Ending → World → Prop} (hi : ops[i]? = some oi) (hd : oi.dst = some d)
    (hw : Region.wanted oi (yielded ops a.tmps) = true) (hrun : (execOp a.eval oi).run P w = .ok (.enter f args) w) (hc : Calls P f args w R)
    (h : ∀ e w', R e w' → (∃ v, e = .returned v ∧ (i ∉ D → S w') ∧ wpAnyD P md ops Q S D fuel (listed.setIfInBounds i true) { a with tmps := a.tmps.setIfInBounds d v } w') ∨ (∃ c, e = .panicked c ∧ Q (.panic c) a w')) : wpOp P ops Q i (fun a' w' => (i ∉ D → S w') ∧ wpAnyD P md ops Q S D fuel (listed.setIfInBounds i true) a' w') a w := by
  unfold wpOp
  simp only [hi, hw, if_true]
  left
  unfold Oper.wp
  rw [hrun]
  refine Calls.mono hc ?_
  intro e w' hR
  rcases h e w' hR with ⟨v, rfl, hS, hh⟩ | ⟨c, rfl, hq⟩
  · refine ⟨hS, ?_⟩
    show wpAnyD P md ops Q S D fuel _ (a.put oi.dst v) w'
    rw [hd]
    exact hh
  · exact hq
end
def cA1 (n : Int) : List (Int × Int) := [(0, n), (29, 0)]
def cA2 (l : Int) : List (Int × Int) := [(1, 0), (0, l), (21, 0), (30, 0)]
def cA3 : List (Int × Int) := [(1, 0), (34, 0), (1, 0), (0, 1), (8, 0), (2, 0), (31, 0)]
theorem rep_concat {n l : Int} (v : Value) (vs : List Value) (w : World) (hr : Rd w 1 v 3 vs) {a2 a7 : Option Addr} {c2 c7 i : Nat} (h1 : Rd w 2 (.slice a2 2 c2) 2 ((cA1 n).flatMap cI)) (h2 : Rd w 2 (.slice (some ⟨i, 0, none⟩) 4 4) 4 [.int .i64 1, .int .u32 0, .int .i64 0, .int .u32 l, .int .i64 21, .int .u32 0, .int .i64 30, .int .u32 0]) (h3 : Rd w 2 (.slice a7 7 c7) 7 (cA3.flatMap cI)) (hvs : vs = [.slice a2 2 c2, .slice (some ⟨i, 0, none⟩) 4 4, .slice a7 7 c7] := by rfl) :
    Calls Tryz.prog 25 #[v] w fun x w' => ∃ v', x = .returned v' ∧ w'.ownsRow w.heap.size 63 2 v' 13 ((brC n l).flatMap cI) ∧ Ext w w' := by
  subst hvs
  exact concat_any v _ [cA1 n, cA2 l, cA3] w hr (fun i v' C' e1 e2 => by
    match i, e1, e2 with
    | 0, e1, e2 => simp only [List.getElem?_cons_zero, Option.some.injEq] at e1 e2; subst e1; subst e2; exact h1
    | 1, e1, e2 => simp only [List.getElem?_cons_succ, List.getElem?_cons_zero, Option.some.injEq] at e1 e2; subst e1; subst e2; exact h2
    | 2, e1, e2 => simp only [List.getElem?_cons_succ, List.getElem?_cons_zero, Option.some.injEq] at e1 e2; subst e1; subst e2; exact h3
    | i + 3, e1, e2 => simp at e1) (by simp [cA1, cA2, cA3]) (by simp [cA1, cA2, cA3]) (by simp)
set_option maxHeartbeats 4000000 in
set_option maxRecDepth 100000 in
theorem repreg11 {Q : Exit → Act → World → Prop} {W : World} {p b o cc c2 c7 : Nat} {a2 a7 : Option Addr} {n l : Int} (t0 t2 t3 t4 t6 t7 t8 t9 t10 t11 t12 t13 t14 t15 t16 t17 t18 t19 t20 t21 t22 t23 t24 t25 t26 t27 t28 t29 t30 t31 t32 t33 t34 t35 t36 t37 t38 t39 t40 t41 t42 t43 t44 t45 t46 t47 t48 t49 t50 t51 t52 t53 t54 t55 t56 t57 t58 t59 t60 t61 t62 t63 t64 t65 t66 t67 t68 t69 t70 t71 t72 t73 t74 t75 t76 t77 t78 t79 t80 t81 t82 t83 t84 t85 t86 t87 t88 t89 t90 t91 t92 t93 t94 t95 t96 t97 t98 t99 t100 t101 t102 t103 t104 t105 t106 t107 t108 : Value)
    (hQ : ∀ (d : Tmp) {c : List PanicEntry} {a : Act} {v : Value} {w : World}, Q (.panic c) (a.put (some d) v) w → Q (.panic c) a w)
    (BP : Hid (Blk W p 25 [.slice none 0 0, .int .i64 1, .slice (some ⟨b, o, none⟩) 9 cc])) (hlw : IntKind.u32.wrap l = l)
    (hcut1 : ∀ w, (Instr.sliceAt 23 (.slice (some ⟨b, o, none⟩) 9 cc) none (some (.int .i64 2)) none).run Tryz.prog w = .ok (.slice a2 2 c2) w)
    (hcut2 : ∀ w, (Instr.sliceAt 23 (.slice (some ⟨b, o, none⟩) 9 cc) (some (.int .i64 2)) none none).run Tryz.prog w = .ok (.slice a7 7 c7) w)
    (hA : Hid (Rd W 2 (.slice a2 2 c2) 2 ((cA1 n).flatMap cI))) (hB : Hid (Rd W 2 (.slice a7 7 c7) 7 (cA3.flatMap cI)))
    (hk : ∀ (q : Nat) (a9 : Option Addr) (c9 : Nat) (u0 u1 : Value) (w9 : World), Ext W w9 → Blk w9 q 25 [.slice none 0 0, .int .i64 1, .slice a9 13 c9] → Rd w9 2 (.slice a9 13 c9) 13 ((brC n l).flatMap cI) →
      Q .normal { tmps := #[t0, .int .u8 l, t2, t3, t4, .pointer (some ⟨p, 0, none⟩), t6, t7, t8, t9, .pointer (some ⟨q, 0, none⟩), t11, t12, t13, t14, t15, t16, t17, t18, t19, t20, t21, t22, t23, t24, t25, t26, t27, t28, t29, t30, t31, t32, t33, t34, t35, t36, t37, t38, t39, t40, t41, t42, t43, t44, t45, t46, t47, t48, t49, t50, t51, t52, t53, t54, .pointer (some ⟨p, 2, none⟩), .slice (some ⟨b, o, none⟩) 9 cc, .slice a2 2 c2, .agg #[.int .i64 1, .int .u32 0], .int .u8 l, .int .u32 l, .agg #[.int .i64 0, .int .u32 l], .agg #[.int .i64 21, .int .u32 0], .agg #[.int .i64 30, .int .u32 0], u0, .pointer (some ⟨p, 2, none⟩), .slice (some ⟨b, o, none⟩) 9 cc, .slice a7 7 c7, u1, .slice a9 13 c9, .agg #[.slice none 0 0, .int .i64 1, .slice a9 13 c9], t71, t72, t73, t74, t75, t76, t77, t78, t79, t80, t81, t82, t83, t84, t85, t86, t87, t88, t89, t90, t91, t92, t93, t94, t95, t96, t97, t98, t99, t100, t101, t102, t103, t104, t105, t106, t107, t108], defers := [] } w9) :
    (Code.region 11 #[{ dst := some 55, op := Op.fieldAddr 25 (Operand.tmp 5) 2, type := 0, pos := "law.go:156", after := #[], guard := none }, { dst := some 56, op := Op.load 23 (Operand.tmp 55), type := 23, pos := "law.go:156", after := #[{ on := 0, ground := Ground.data }], guard := none }, { dst := some 57, op := Op.slice 23 (Operand.tmp 56) none (some (Operand.const (Value.int IntKind.i64 2))) none, type := 23, pos := "law.go:156", after := #[{ on := 1, ground := Ground.data }], guard := none }, { dst := some 58, op := Op.build 63 #[(0, Operand.const (Value.int IntKind.i64 1))], type := 63, pos := "law.go:156", after := #[], guard := none }, { dst := some 59, op := Op.move (Operand.tmp 1), type := 5, pos := "law.go:156", after := #[], guard := none }, { dst := some 60, op := Op.convert 5 42 (Operand.tmp 59), type := 42, pos := "law.go:156", after := #[{ on := 4, ground := Ground.data }], guard := none }, { dst := some 61, op := Op.build 63 #[(0, Operand.const (Value.int IntKind.i64 0)), (1, Operand.tmp 60)], type := 63, pos := "law.go:156", after := #[{ on := 5, ground := Ground.data }], guard := none }, { dst := some 62, op := Op.build 63 #[(0, Operand.const (Value.int IntKind.i64 21))], type := 63, pos := "law.go:156", after := #[], guard := none }, { dst := some 63, op := Op.build 63 #[(0, Operand.const (Value.int IntKind.i64 30))], type := 63, pos := "law.go:156", after := #[], guard := none }, { dst := some 64, op := Op.buildSlice 23 4 #[(0, Operand.tmp 58), (1, Operand.tmp 61), (2, Operand.tmp 62), (3, Operand.tmp 63)], type := 23, pos := "law.go:156", after := #[{ on := 3, ground := Ground.data }, { on := 6, ground := Ground.data }, { on := 7, ground := Ground.data }, { on := 8, ground := Ground.data }], guard := none }, { dst := some 65, op := Op.fieldAddr 25 (Operand.tmp 5) 2, type := 0, pos := "law.go:156", after := #[], guard := none }, { dst := some 66, op := Op.load 23 (Operand.tmp 65), type := 23, pos := "law.go:156", after := #[{ on := 10, ground := Ground.data }], guard := none }, { dst := some 67, op := Op.slice 23 (Operand.tmp 66) (some (Operand.const (Value.int IntKind.i64 2))) none none, type := 23, pos := "law.go:156", after := #[{ on := 11, ground := Ground.data }], guard := none }, { dst := some 68, op := Op.buildSlice 91 3 #[(0, Operand.tmp 57), (1, Operand.tmp 64), (2, Operand.tmp 67)], type := 91, pos := "law.go:156", after := #[{ on := 2, ground := Ground.data }, { on := 9, ground := Ground.data }, { on := 12, ground := Ground.data }], guard := none }, { dst := some 69, op := Op.call { callee := Callee.value (Operand.func 25), args := #[Operand.tmp 68], argTypes := #[91] }, type := 23, pos := "law.go:156", after := #[{ on := 13, ground := Ground.data }], guard := none }, { dst := some 70, op := Op.build 25 #[(1, Operand.const (Value.int IntKind.i64 1)), (2, Operand.tmp 69)], type := 25, pos := "law.go:156", after := #[{ on := 14, ground := Ground.data }], guard := none }, { dst := some 10, op := Op.alloc 25, type := 0, pos := "law.go:156", after := #[], guard := none }, { dst := none, op := Op.store 25 (Operand.tmp 10) (Operand.tmp 70), type := 0, pos := "law.go:156", after := #[{ on := 16, ground := Ground.data }, { on := 15, ground := Ground.data }, { on := 14, ground := Ground.chain }, { on := 0, ground := Ground.phase }, { on := 1, ground := Ground.phase }, { on := 2, ground := Ground.phase }, { on := 3, ground := Ground.phase }, { on := 4, ground := Ground.phase }, { on := 5, ground := Ground.phase }, { on := 6, ground := Ground.phase }, { on := 7, ground := Ground.phase }, { on := 8, ground := Ground.phase }, { on := 9, ground := Ground.phase }, { on := 10, ground := Ground.phase }, { on := 11, ground := Ground.phase }, { on := 12, ground := Ground.phase }, { on := 13, ground := Ground.phase }, { on := 14, ground := Ground.phase }, { on := 15, ground := Ground.phase }, { on := 16, ground := Ground.phase }], guard := none }] true).wp Tryz.prog Q { tmps := #[t0, .int .u8 l, t2, t3, t4, .pointer (some ⟨p, 0, none⟩), t6, t7, t8, t9, t10, t11, t12, t13, t14, t15, t16, t17, t18, t19, t20, t21, t22, t23, t24, t25, t26, t27, t28, t29, t30, t31, t32, t33, t34, t35, t36, t37, t38, t39, t40, t41, t42, t43, t44, t45, t46, t47, t48, t49, t50, t51, t52, t53, t54, t55, t56, t57, t58, t59, t60, t61, t62, t63, t64, t65, t66, t67, t68, t69, t70, t71, t72, t73, t74, t75, t76, t77, t78, t79, t80, t81, t82, t83, t84, t85, t86, t87, t88, t89, t90, t91, t92, t93, t94, t95, t96, t97, t98, t99, t100, t101, t102, t103, t104, t105, t106, t107, t108], defers := [] } W := by
  have d0 := BP.out.cell 2 _ rfl
  refine wp_region_D (S := fun w' => w'.cell? ⟨p, 2, none⟩ = some (.slice (some ⟨b, o, none⟩) 9 cc)) (D := []) (by kernel_rfl) d0 (fun HS => ?_)
  refine takeD 0 [] (.pointer (some ⟨p, 2, none⟩)) rfl rfl (by kernel_rfl) (by kernel_rfl) (by kernel_rfl) (by kernel_rfl) (by decide) (by decide) (fun _ _ _ h => hQ 55 h) (by rfl) (fun w' hw' => by go_simp) HS ?_
  try simp only [List.setIfInBounds_toArray, List.set_cons_zero, List.set_cons_succ]
  refine takeD 1 [] (.slice (some ⟨b, o, none⟩) 9 cc) rfl rfl (by kernel_rfl) (by kernel_rfl) (by kernel_rfl) (by kernel_rfl) (by decide) (by decide) (fun _ _ _ h => hQ 56 h) (by rfl) (fun w' hw' => by have hw0 : w'.cell? ⟨p, 2, none⟩ = some (.slice (some ⟨b, o, none⟩) 9 cc) := hw'; go_simp) HS ?_
  try simp only [List.setIfInBounds_toArray, List.set_cons_zero, List.set_cons_succ]
  refine takeD 2 [] (.slice a2 2 c2) rfl rfl (by kernel_rfl) (by kernel_rfl) (by kernel_rfl) (by kernel_rfl) (by decide) (by decide) (fun _ _ _ h => hQ 57 h) (by rfl) (fun w' hw' => by go_simp) HS ?_
  try simp only [List.setIfInBounds_toArray, List.set_cons_zero, List.set_cons_succ]
  refine takeD 3 [] (.agg #[.int .i64 1, .int .u32 0]) rfl rfl (by kernel_rfl) (by kernel_rfl) (by kernel_rfl) (by kernel_rfl) (by decide) (by decide) (fun _ _ _ h => hQ 58 h) (by rfl) (fun w' hw' => by go_simp) HS ?_
  try simp only [List.setIfInBounds_toArray, List.set_cons_zero, List.set_cons_succ]
  refine takeD 4 [] (.int .u8 l) rfl rfl (by kernel_rfl) (by kernel_rfl) (by kernel_rfl) (by kernel_rfl) (by decide) (by decide) (fun _ _ _ h => hQ 59 h) (by rfl) (fun w' hw' => by go_simp) HS ?_
  try simp only [List.setIfInBounds_toArray, List.set_cons_zero, List.set_cons_succ]
  refine takeD 5 [] (.int .u32 l) rfl rfl (by kernel_rfl) (by kernel_rfl) (by kernel_rfl) (by kernel_rfl) (by decide) (by decide) (fun _ _ _ h => hQ 60 h) (by rfl) (fun w' hw' => by go_simp) HS ?_
  try simp only [List.setIfInBounds_toArray, List.set_cons_zero, List.set_cons_succ]
  refine takeD 6 [] (.agg #[.int .i64 0, .int .u32 l]) rfl rfl (by kernel_rfl) (by kernel_rfl) (by kernel_rfl) (by kernel_rfl) (by decide) (by decide) (fun _ _ _ h => hQ 61 h) (by rfl) (fun w' hw' => by go_simp) HS ?_
  try simp only [List.setIfInBounds_toArray, List.set_cons_zero, List.set_cons_succ]
  refine takeD 7 [] (.agg #[.int .i64 21, .int .u32 0]) rfl rfl (by kernel_rfl) (by kernel_rfl) (by kernel_rfl) (by kernel_rfl) (by decide) (by decide) (fun _ _ _ h => hQ 62 h) (by rfl) (fun w' hw' => by go_simp) HS ?_
  try simp only [List.setIfInBounds_toArray, List.set_cons_zero, List.set_cons_succ]
  refine takeD 8 [] (.agg #[.int .i64 30, .int .u32 0]) rfl rfl (by kernel_rfl) (by kernel_rfl) (by kernel_rfl) (by kernel_rfl) (by decide) (by decide) (fun _ _ _ h => hQ 63 h) (by rfl) (fun w' hw' => by go_simp) HS ?_
  try simp only [List.setIfInBounds_toArray, List.set_cons_zero, List.set_cons_succ]
  refine takeD 10 [] (.pointer (some ⟨p, 2, none⟩)) rfl rfl (by kernel_rfl) (by kernel_rfl) (by kernel_rfl) (by kernel_rfl) (by decide) (by decide) (fun _ _ _ h => hQ 65 h) (by rfl) (fun w' hw' => by go_simp) HS ?_
  try simp only [List.setIfInBounds_toArray, List.set_cons_zero, List.set_cons_succ]
  refine takeD 11 [] (.slice (some ⟨b, o, none⟩) 9 cc) rfl rfl (by kernel_rfl) (by kernel_rfl) (by kernel_rfl) (by kernel_rfl) (by decide) (by decide) (fun _ _ _ h => hQ 66 h) (by rfl) (fun w' hw' => by have hw0 : w'.cell? ⟨p, 2, none⟩ = some (.slice (some ⟨b, o, none⟩) 9 cc) := hw'; go_simp) HS ?_
  try simp only [List.setIfInBounds_toArray, List.set_cons_zero, List.set_cons_succ]
  refine takeD 12 [] (.slice a7 7 c7) rfl rfl (by kernel_rfl) (by kernel_rfl) (by kernel_rfl) (by kernel_rfl) (by decide) (by decide) (fun _ _ _ h => hQ 67 h) (by rfl) (fun w' hw' => by go_simp) HS ?_
  try simp only [List.setIfInBounds_toArray, List.set_cons_zero, List.set_cons_succ]
  have X0 := (Ext.refl W).drew
  obtain ⟨W0, hW0⟩ : ∃ V, W.drew = V := ⟨_, rfl⟩
  rw [hW0] at X0 HS ⊢
  clear hW0
  refine wpAnyD_all (rs := [9, 16]) (by kernel_rfl) (by simp) ?_
  intro kk hkk
  simp only [List.mem_cons, List.not_mem_nil, or_false] at hkk
  rcases hkk with rfl | rfl
  · have XA1 := (X0).alloc (.cells #[.int .i64 1, .int .u32 0, .int .i64 0, .int .u32 l, .int .i64 21, .int .u32 0, .int .i64 30, .int .u32 0] 63)
    have XC1 := (Ext.refl W0).alloc (.cells #[.int .i64 1, .int .u32 0, .int .i64 0, .int .u32 l, .int .i64 21, .int .u32 0, .int .i64 30, .int .u32 0] 63)
    have hI1 : Rd _ 2 _ 4 _ := rd_newc W0 [.int .i64 1, .int .u32 0, .int .i64 0, .int .u32 l, .int .i64 21, .int .u32 0, .int .i64 30, .int .u32 0] 63 2 4 rfl (by decide)
    have s1 := XC1.cell HS
    refine valueW 9 (.slice (some ⟨W0.heap.size, 0, none⟩) 4 4) rfl rfl (by rfl) (w' := W0.alloc (.cells #[.int .i64 1, .int .u32 0, .int .i64 0, .int .u32 l, .int .i64 21, .int .u32 0, .int .i64 30, .int .u32 0] 63)) (by go_simp) (fun _ => s1) ?_
    try simp only [List.setIfInBounds_toArray, List.set_cons_zero, List.set_cons_succ]
    obtain ⟨V1, hV1⟩ : ∃ V, W0.alloc (.cells #[.int .i64 1, .int .u32 0, .int .i64 0, .int .u32 l, .int .i64 21, .int .u32 0, .int .i64 30, .int .u32 0] 63) = V := ⟨_, rfl⟩
    obtain ⟨i1, hi1⟩ : ∃ i, (Value.slice (some ⟨W0.heap.size, 0, none⟩) 4 4) = .slice (some ⟨i, 0, none⟩) 4 4 := ⟨_, rfl⟩
    rw [show (W0.alloc (.cells ([.int .i64 1, .int .u32 0, .int .i64 0, .int .u32 l, .int .i64 21, .int .u32 0, .int .i64 30, .int .u32 0] : List Value).toArray 63)) = V1 from hV1] at hI1
    rw [hV1] at XA1 XC1 s1 ⊢
    rw [hi1] at hI1 ⊢
    clear hV1 hi1
    refine wpAnyD_all (rs := [13, 16]) (by kernel_rfl) (by simp) ?_
    intro kk hkk
    simp only [List.mem_cons, List.not_mem_nil, or_false] at hkk
    rcases hkk with rfl | rfl
    · have XA2 := (XA1).alloc (.cells #[.slice a2 2 c2, .slice (some ⟨i1, 0, none⟩) 4 4, .slice a7 7 c7] 23)
      have XC2 := (Ext.refl V1).alloc (.cells #[.slice a2 2 c2, .slice (some ⟨i1, 0, none⟩) 4 4, .slice a7 7 c7] 23)
      have hL2 := rd_newc V1 [.slice a2 2 c2, .slice (some ⟨i1, 0, none⟩) 4 4, .slice a7 7 c7] 23 1 3 rfl (by decide)
      have s2 := XC2.cell s1
      refine valueW 13 (.slice (some ⟨V1.heap.size, 0, none⟩) 3 3) rfl rfl (by rfl) (w' := V1.alloc (.cells #[.slice a2 2 c2, .slice (some ⟨i1, 0, none⟩) 4 4, .slice a7 7 c7] 23)) (by go_simp) (fun _ => s2) ?_
      try simp only [List.setIfInBounds_toArray, List.set_cons_zero, List.set_cons_succ]
      obtain ⟨V2, hV2⟩ : ∃ V, V1.alloc (.cells #[.slice a2 2 c2, .slice (some ⟨i1, 0, none⟩) 4 4, .slice a7 7 c7] 23) = V := ⟨_, rfl⟩
      obtain ⟨i2, hi2⟩ : ∃ i, (Value.slice (some ⟨V1.heap.size, 0, none⟩) 3 3) = .slice (some ⟨i, 0, none⟩) 3 3 := ⟨_, rfl⟩
      rw [show (V1.alloc (.cells ([.slice a2 2 c2, .slice (some ⟨i1, 0, none⟩) 4 4, .slice a7 7 c7] : List Value).toArray 23)) = V2 from hV2] at hL2
      rw [hV2] at XA2 XC2 s2 ⊢
      rw [hi2] at hL2 ⊢
      clear hV2 hi2
      have hI2 := Rd.ext (hI1) XC2
      refine wpAnyD_all (rs := [14, 16]) (by kernel_rfl) (by simp) ?_
      intro kk hkk
      simp only [List.mem_cons, List.not_mem_nil, or_false] at hkk
      rcases hkk with rfl | rfl
      · have hcn := rep_concat (n := n) (l := l) (.slice (some ⟨i2, 0, none⟩) 3 3) [.slice a2 2 c2, .slice (some ⟨i1, 0, none⟩) 4 4, .slice a7 7 c7] V2 (hL2) (Rd.ext hA.out (XA2)) (hI2) (Rd.ext hB.out (XA2))
        refine callW 14 25 #[(.slice (some ⟨i2, 0, none⟩) 3 3)] rfl rfl (by rfl) (by go_simp) hcn ?_
        rintro x V3 ⟨v9, rfl, hO3, hX3⟩
        obtain ⟨a9, c9, rfl, -⟩ := own_shape hO3
        have hC3 := Rd.of_own hO3
        have XA3 := (XA2).trans hX3
        have s3 := hX3.cell s2
        refine Or.inl ⟨_, rfl, fun _ => s3, ?_⟩
        try simp only [Act.put, List.setIfInBounds_toArray, List.set_cons_zero, List.set_cons_succ]
        have hown3 : ∀ x, (Value.slice a9 13 c9).ownBlock = some x → x < V3.heap.size := fun x hv => (own_lt hO3 hv).2
        refine takeD 15 [] (.agg #[.slice none 0 0, .int .i64 1, .slice a9 13 c9]) rfl rfl (by kernel_rfl) (by kernel_rfl) (by kernel_rfl) (by kernel_rfl) (by decide) (by decide) (fun _ _ _ h => hQ 70 h) (by rfl) (fun w' hw' => by go_simp) s3 ?_
        try simp only [List.setIfInBounds_toArray, List.set_cons_zero, List.set_cons_succ]
        obtain ⟨q, hq⟩ : ∃ q, V3.heap.size = q := ⟨_, rfl⟩
        have hqW : W.heap.size ≤ q := by have := (XA3).size; omega
        have XA4 := (XA3).alloc (.cells #[.slice none 0 0, .int .i64 0, .slice none 0 0] 25)
        have XC4 := (Ext.refl V3).alloc (.cells #[.slice none 0 0, .int .i64 0, .slice none 0 0] 25)
        have BQ4 := blk_at1 V3 [.slice none 0 0, .int .i64 0, .slice none 0 0] 25 q hq
        have s4 := XC4.cell s3
        refine valueD 16 (.pointer (some ⟨q, 0, none⟩)) rfl rfl (by kernel_rfl) (by rfl) (w' := V3.alloc (.cells #[.slice none 0 0, .int .i64 0, .slice none 0 0] 25)) (by go_simp) (fun _ => s4) ?_
        try simp only [List.setIfInBounds_toArray, List.set_cons_zero, List.set_cons_succ]
        obtain ⟨V4, hV4⟩ : ∃ V, V3.alloc (.cells #[.slice none 0 0, .int .i64 0, .slice none 0 0] 25) = V := ⟨_, rfl⟩
        rw [show (V3.alloc (.cells ([.slice none 0 0, .int .i64 0, .slice none 0 0] : List Value).toArray 25)) = V4 from hV4] at BQ4
        rw [hV4] at XA4 XC4 s4 ⊢
        clear hV4
        have hC4 := Rd.ext (hC3) XC4
        have hne4 : (Value.slice a9 13 c9).ownBlock ≠ some q := fun hv => by have := hown3 q hv; omega
        have BQ2 := BQ4
        have fz0 := BQ2.frozen 0
        have fz1 := BQ2.frozen 1
        have fz2 := BQ2.frozen 2
        have cz0 := BQ2.cell 0 _ rfl
        have cz1 := BQ2.cell 1 _ rfl
        have cz2 := BQ2.cell 2 _ rfl
        have c50 : Chg [q] V4 (((V4.setCell ⟨q, 0, none⟩ (.slice none 0 0)).setCell ⟨q, 1, none⟩ (.int .i64 1)).setCell ⟨q, 2, none⟩ (.slice a9 13 c9)) := (((Chg.refl _ _).setCell (p := ⟨q, 0, none⟩) (Or.inl (by simp)) _).setCell (p := ⟨q, 1, none⟩) (Or.inl (by simp)) _).setCell (p := ⟨q, 2, none⟩) (Or.inl (by simp)) _
        have hqp : q ≠ p := by have := BP.out.lt; omega
        have hS2 := c50.cell (show p ∉ [q] by simp; omega) s4
        have hCF := (hC4).chg c50 (fun x hx _ hv => by rw [List.mem_singleton.1 hx] at hv; exact hne4 hv)
        have hEF := (((XA4).setCell (p := ⟨q, 0, none⟩) hqW (.slice none 0 0)).setCell (p := ⟨q, 1, none⟩) hqW (.int .i64 1)).setCell (p := ⟨q, 2, none⟩) hqW (.slice a9 13 c9)
        have hBF := ((BQ2.set 0 (.slice none 0 0)).set 1 (.int .i64 1)).set 2 (.slice a9 13 c9)
        refine storeD 17 rfl rfl (by kernel_rfl) (by rfl) (w' := (((V4.setCell ⟨q, 0, none⟩ (.slice none 0 0)).setCell ⟨q, 1, none⟩ (.int .i64 1)).setCell ⟨q, 2, none⟩ (.slice a9 13 c9))) (by go_simp) (fun _ => hS2) ?_
        refine wpAnyD_done (by kernel_rfl) ?_ _
        exact hk q a9 c9 _ _ _ hEF hBF hCF
      · obtain ⟨q, hq⟩ : ∃ q, V2.heap.size = q := ⟨_, rfl⟩
        have hqW : W.heap.size ≤ q := by have := (XA2).size; omega
        have XA5 := (XA2).alloc (.cells #[.slice none 0 0, .int .i64 0, .slice none 0 0] 25)
        have XC5 := (Ext.refl V2).alloc (.cells #[.slice none 0 0, .int .i64 0, .slice none 0 0] 25)
        have BQ5 := blk_at1 V2 [.slice none 0 0, .int .i64 0, .slice none 0 0] 25 q hq
        have s5 := XC5.cell s2
        refine valueW 16 (.pointer (some ⟨q, 0, none⟩)) rfl rfl (by rfl) (w' := V2.alloc (.cells #[.slice none 0 0, .int .i64 0, .slice none 0 0] 25)) (by go_simp) (fun _ => s5) ?_
        try simp only [List.setIfInBounds_toArray, List.set_cons_zero, List.set_cons_succ]
        obtain ⟨V5, hV5⟩ : ∃ V, V2.alloc (.cells #[.slice none 0 0, .int .i64 0, .slice none 0 0] 25) = V := ⟨_, rfl⟩
        rw [show (V2.alloc (.cells ([.slice none 0 0, .int .i64 0, .slice none 0 0] : List Value).toArray 25)) = V5 from hV5] at BQ5
        rw [hV5] at XA5 XC5 s5 ⊢
        clear hV5 hq
        have hI5 := Rd.ext (hI2) XC5
        have hL5 := Rd.ext (hL2) XC5
        have hcn := rep_concat (n := n) (l := l) (.slice (some ⟨i2, 0, none⟩) 3 3) [.slice a2 2 c2, .slice (some ⟨i1, 0, none⟩) 4 4, .slice a7 7 c7] V5 (hL5) (Rd.ext hA.out (XA5)) (hI5) (Rd.ext hB.out (XA5))
        refine callVD 14 25 #[(.slice (some ⟨i2, 0, none⟩) 3 3)] rfl rfl (by kernel_rfl) (by rfl) (by go_simp) hcn ?_
        rintro x V6 ⟨v9, rfl, hO6, hX6⟩
        obtain ⟨a9, c9, rfl, -⟩ := own_shape hO6
        have hC6 := Rd.of_own hO6
        have XA6 := (XA5).trans hX6
        have s6 := hX6.cell s5
        refine Or.inl ⟨_, rfl, fun _ => s6, ?_⟩
        try simp only [Act.put, List.setIfInBounds_toArray, List.set_cons_zero, List.set_cons_succ]
        have hne6 : (Value.slice a9 13 c9).ownBlock ≠ some q := fun hv => by have h1 := (own_lt hO6 hv).1; have h2 := (BQ5).lt; omega
        have BQ6 := BQ5.ext hX6
        refine takeD 15 [] (.agg #[.slice none 0 0, .int .i64 1, .slice a9 13 c9]) rfl rfl (by kernel_rfl) (by kernel_rfl) (by kernel_rfl) (by kernel_rfl) (by decide) (by decide) (fun _ _ _ h => hQ 70 h) (by rfl) (fun w' hw' => by go_simp) s6 ?_
        try simp only [List.setIfInBounds_toArray, List.set_cons_zero, List.set_cons_succ]
        have BQ2 := BQ6
        have fz0 := BQ2.frozen 0
        have fz1 := BQ2.frozen 1
        have fz2 := BQ2.frozen 2
        have cz0 := BQ2.cell 0 _ rfl
        have cz1 := BQ2.cell 1 _ rfl
        have cz2 := BQ2.cell 2 _ rfl
        have c50 : Chg [q] V6 (((V6.setCell ⟨q, 0, none⟩ (.slice none 0 0)).setCell ⟨q, 1, none⟩ (.int .i64 1)).setCell ⟨q, 2, none⟩ (.slice a9 13 c9)) := (((Chg.refl _ _).setCell (p := ⟨q, 0, none⟩) (Or.inl (by simp)) _).setCell (p := ⟨q, 1, none⟩) (Or.inl (by simp)) _).setCell (p := ⟨q, 2, none⟩) (Or.inl (by simp)) _
        have hqp : q ≠ p := by have := BP.out.lt; omega
        have hS2 := c50.cell (show p ∉ [q] by simp; omega) s6
        have hCF := (hC6).chg c50 (fun x hx _ hv => by rw [List.mem_singleton.1 hx] at hv; exact hne6 hv)
        have hEF := (((XA6).setCell (p := ⟨q, 0, none⟩) hqW (.slice none 0 0)).setCell (p := ⟨q, 1, none⟩) hqW (.int .i64 1)).setCell (p := ⟨q, 2, none⟩) hqW (.slice a9 13 c9)
        have hBF := ((BQ2.set 0 (.slice none 0 0)).set 1 (.int .i64 1)).set 2 (.slice a9 13 c9)
        refine storeD 17 rfl rfl (by kernel_rfl) (by rfl) (w' := (((V6.setCell ⟨q, 0, none⟩ (.slice none 0 0)).setCell ⟨q, 1, none⟩ (.int .i64 1)).setCell ⟨q, 2, none⟩ (.slice a9 13 c9))) (by go_simp) (fun _ => hS2) ?_
        refine wpAnyD_done (by kernel_rfl) ?_ _
        exact hk q a9 c9 _ _ _ hEF hBF hCF
    · obtain ⟨q, hq⟩ : ∃ q, V1.heap.size = q := ⟨_, rfl⟩
      have hqW : W.heap.size ≤ q := by have := (XA1).size; omega
      have XA7 := (XA1).alloc (.cells #[.slice none 0 0, .int .i64 0, .slice none 0 0] 25)
      have XC7 := (Ext.refl V1).alloc (.cells #[.slice none 0 0, .int .i64 0, .slice none 0 0] 25)
      have BQ7 := blk_at1 V1 [.slice none 0 0, .int .i64 0, .slice none 0 0] 25 q hq
      have s7 := XC7.cell s1
      refine valueW 16 (.pointer (some ⟨q, 0, none⟩)) rfl rfl (by rfl) (w' := V1.alloc (.cells #[.slice none 0 0, .int .i64 0, .slice none 0 0] 25)) (by go_simp) (fun _ => s7) ?_
      try simp only [List.setIfInBounds_toArray, List.set_cons_zero, List.set_cons_succ]
      obtain ⟨V7, hV7⟩ : ∃ V, V1.alloc (.cells #[.slice none 0 0, .int .i64 0, .slice none 0 0] 25) = V := ⟨_, rfl⟩
      rw [show (V1.alloc (.cells ([.slice none 0 0, .int .i64 0, .slice none 0 0] : List Value).toArray 25)) = V7 from hV7] at BQ7
      rw [hV7] at XA7 XC7 s7 ⊢
      clear hV7 hq
      have hI7 := Rd.ext (hI1) XC7
      have XA8 := (XA7).alloc (.cells #[.slice a2 2 c2, .slice (some ⟨i1, 0, none⟩) 4 4, .slice a7 7 c7] 23)
      have XC8 := (Ext.refl V7).alloc (.cells #[.slice a2 2 c2, .slice (some ⟨i1, 0, none⟩) 4 4, .slice a7 7 c7] 23)
      have hL8 := rd_newc V7 [.slice a2 2 c2, .slice (some ⟨i1, 0, none⟩) 4 4, .slice a7 7 c7] 23 1 3 rfl (by decide)
      have s8 := XC8.cell s7
      refine valueD 13 (.slice (some ⟨V7.heap.size, 0, none⟩) 3 3) rfl rfl (by kernel_rfl) (by rfl) (w' := V7.alloc (.cells #[.slice a2 2 c2, .slice (some ⟨i1, 0, none⟩) 4 4, .slice a7 7 c7] 23)) (by go_simp) (fun _ => s8) ?_
      try simp only [List.setIfInBounds_toArray, List.set_cons_zero, List.set_cons_succ]
      obtain ⟨V8, hV8⟩ : ∃ V, V7.alloc (.cells #[.slice a2 2 c2, .slice (some ⟨i1, 0, none⟩) 4 4, .slice a7 7 c7] 23) = V := ⟨_, rfl⟩
      obtain ⟨i8, hi8⟩ : ∃ i, (Value.slice (some ⟨V7.heap.size, 0, none⟩) 3 3) = .slice (some ⟨i, 0, none⟩) 3 3 := ⟨_, rfl⟩
      rw [show (V7.alloc (.cells ([.slice a2 2 c2, .slice (some ⟨i1, 0, none⟩) 4 4, .slice a7 7 c7] : List Value).toArray 23)) = V8 from hV8] at hL8
      rw [hV8] at XA8 XC8 s8 ⊢
      rw [hi8] at hL8 ⊢
      clear hV8 hi8
      have hI8 := Rd.ext (hI7) XC8
      have BQ8 := BQ7.ext XC8
      have hcn := rep_concat (n := n) (l := l) (.slice (some ⟨i8, 0, none⟩) 3 3) [.slice a2 2 c2, .slice (some ⟨i1, 0, none⟩) 4 4, .slice a7 7 c7] V8 (hL8) (Rd.ext hA.out (XA8)) (hI8) (Rd.ext hB.out (XA8))
      refine callVD 14 25 #[(.slice (some ⟨i8, 0, none⟩) 3 3)] rfl rfl (by kernel_rfl) (by rfl) (by go_simp) hcn ?_
      rintro x V9 ⟨v9, rfl, hO9, hX9⟩
      obtain ⟨a9, c9, rfl, -⟩ := own_shape hO9
      have hC9 := Rd.of_own hO9
      have XA9 := (XA8).trans hX9
      have s9 := hX9.cell s8
      refine Or.inl ⟨_, rfl, fun _ => s9, ?_⟩
      try simp only [Act.put, List.setIfInBounds_toArray, List.set_cons_zero, List.set_cons_succ]
      have hne9 : (Value.slice a9 13 c9).ownBlock ≠ some q := fun hv => by have h1 := (own_lt hO9 hv).1; have h2 := (BQ8).lt; omega
      have BQ9 := BQ8.ext hX9
      refine takeD 15 [] (.agg #[.slice none 0 0, .int .i64 1, .slice a9 13 c9]) rfl rfl (by kernel_rfl) (by kernel_rfl) (by kernel_rfl) (by kernel_rfl) (by decide) (by decide) (fun _ _ _ h => hQ 70 h) (by rfl) (fun w' hw' => by go_simp) s9 ?_
      try simp only [List.setIfInBounds_toArray, List.set_cons_zero, List.set_cons_succ]
      have BQ2 := BQ9
      have fz0 := BQ2.frozen 0
      have fz1 := BQ2.frozen 1
      have fz2 := BQ2.frozen 2
      have cz0 := BQ2.cell 0 _ rfl
      have cz1 := BQ2.cell 1 _ rfl
      have cz2 := BQ2.cell 2 _ rfl
      have c50 : Chg [q] V9 (((V9.setCell ⟨q, 0, none⟩ (.slice none 0 0)).setCell ⟨q, 1, none⟩ (.int .i64 1)).setCell ⟨q, 2, none⟩ (.slice a9 13 c9)) := (((Chg.refl _ _).setCell (p := ⟨q, 0, none⟩) (Or.inl (by simp)) _).setCell (p := ⟨q, 1, none⟩) (Or.inl (by simp)) _).setCell (p := ⟨q, 2, none⟩) (Or.inl (by simp)) _
      have hqp : q ≠ p := by have := BP.out.lt; omega
      have hS2 := c50.cell (show p ∉ [q] by simp; omega) s9
      have hCF := (hC9).chg c50 (fun x hx _ hv => by rw [List.mem_singleton.1 hx] at hv; exact hne9 hv)
      have hEF := (((XA9).setCell (p := ⟨q, 0, none⟩) hqW (.slice none 0 0)).setCell (p := ⟨q, 1, none⟩) hqW (.int .i64 1)).setCell (p := ⟨q, 2, none⟩) hqW (.slice a9 13 c9)
      have hBF := ((BQ2.set 0 (.slice none 0 0)).set 1 (.int .i64 1)).set 2 (.slice a9 13 c9)
      refine storeD 17 rfl rfl (by kernel_rfl) (by rfl) (w' := (((V9.setCell ⟨q, 0, none⟩ (.slice none 0 0)).setCell ⟨q, 1, none⟩ (.int .i64 1)).setCell ⟨q, 2, none⟩ (.slice a9 13 c9))) (by go_simp) (fun _ => hS2) ?_
      refine wpAnyD_done (by kernel_rfl) ?_ _
      exact hk q a9 c9 _ _ _ hEF hBF hCF
  · obtain ⟨q, hq⟩ : ∃ q, W0.heap.size = q := ⟨_, rfl⟩
    have hqW : W.heap.size ≤ q := by have := (X0).size; omega
    have XA10 := (X0).alloc (.cells #[.slice none 0 0, .int .i64 0, .slice none 0 0] 25)
    have XC10 := (Ext.refl W0).alloc (.cells #[.slice none 0 0, .int .i64 0, .slice none 0 0] 25)
    have BQ10 := blk_at1 W0 [.slice none 0 0, .int .i64 0, .slice none 0 0] 25 q hq
    have s10 := XC10.cell HS
    refine valueW 16 (.pointer (some ⟨q, 0, none⟩)) rfl rfl (by rfl) (w' := W0.alloc (.cells #[.slice none 0 0, .int .i64 0, .slice none 0 0] 25)) (by go_simp) (fun _ => s10) ?_
    try simp only [List.setIfInBounds_toArray, List.set_cons_zero, List.set_cons_succ]
    obtain ⟨V10, hV10⟩ : ∃ V, W0.alloc (.cells #[.slice none 0 0, .int .i64 0, .slice none 0 0] 25) = V := ⟨_, rfl⟩
    rw [show (W0.alloc (.cells ([.slice none 0 0, .int .i64 0, .slice none 0 0] : List Value).toArray 25)) = V10 from hV10] at BQ10
    rw [hV10] at XA10 XC10 s10 ⊢
    clear hV10 hq
    have XA11 := (XA10).alloc (.cells #[.int .i64 1, .int .u32 0, .int .i64 0, .int .u32 l, .int .i64 21, .int .u32 0, .int .i64 30, .int .u32 0] 63)
    have XC11 := (Ext.refl V10).alloc (.cells #[.int .i64 1, .int .u32 0, .int .i64 0, .int .u32 l, .int .i64 21, .int .u32 0, .int .i64 30, .int .u32 0] 63)
    have hI11 : Rd _ 2 _ 4 _ := rd_newc V10 [.int .i64 1, .int .u32 0, .int .i64 0, .int .u32 l, .int .i64 21, .int .u32 0, .int .i64 30, .int .u32 0] 63 2 4 rfl (by decide)
    have s11 := XC11.cell s10
    refine valueD 9 (.slice (some ⟨V10.heap.size, 0, none⟩) 4 4) rfl rfl (by kernel_rfl) (by rfl) (w' := V10.alloc (.cells #[.int .i64 1, .int .u32 0, .int .i64 0, .int .u32 l, .int .i64 21, .int .u32 0, .int .i64 30, .int .u32 0] 63)) (by go_simp) (fun _ => s11) ?_
    try simp only [List.setIfInBounds_toArray, List.set_cons_zero, List.set_cons_succ]
    obtain ⟨V11, hV11⟩ : ∃ V, V10.alloc (.cells #[.int .i64 1, .int .u32 0, .int .i64 0, .int .u32 l, .int .i64 21, .int .u32 0, .int .i64 30, .int .u32 0] 63) = V := ⟨_, rfl⟩
    obtain ⟨i11, hi11⟩ : ∃ i, (Value.slice (some ⟨V10.heap.size, 0, none⟩) 4 4) = .slice (some ⟨i, 0, none⟩) 4 4 := ⟨_, rfl⟩
    rw [show (V10.alloc (.cells ([.int .i64 1, .int .u32 0, .int .i64 0, .int .u32 l, .int .i64 21, .int .u32 0, .int .i64 30, .int .u32 0] : List Value).toArray 63)) = V11 from hV11] at hI11
    rw [hV11] at XA11 XC11 s11 ⊢
    rw [hi11] at hI11 ⊢
    clear hV11 hi11
    have BQ11 := BQ10.ext XC11
    have XA12 := (XA11).alloc (.cells #[.slice a2 2 c2, .slice (some ⟨i11, 0, none⟩) 4 4, .slice a7 7 c7] 23)
    have XC12 := (Ext.refl V11).alloc (.cells #[.slice a2 2 c2, .slice (some ⟨i11, 0, none⟩) 4 4, .slice a7 7 c7] 23)
    have hL12 := rd_newc V11 [.slice a2 2 c2, .slice (some ⟨i11, 0, none⟩) 4 4, .slice a7 7 c7] 23 1 3 rfl (by decide)
    have s12 := XC12.cell s11
    refine valueD 13 (.slice (some ⟨V11.heap.size, 0, none⟩) 3 3) rfl rfl (by kernel_rfl) (by rfl) (w' := V11.alloc (.cells #[.slice a2 2 c2, .slice (some ⟨i11, 0, none⟩) 4 4, .slice a7 7 c7] 23)) (by go_simp) (fun _ => s12) ?_
    try simp only [List.setIfInBounds_toArray, List.set_cons_zero, List.set_cons_succ]
    obtain ⟨V12, hV12⟩ : ∃ V, V11.alloc (.cells #[.slice a2 2 c2, .slice (some ⟨i11, 0, none⟩) 4 4, .slice a7 7 c7] 23) = V := ⟨_, rfl⟩
    obtain ⟨i12, hi12⟩ : ∃ i, (Value.slice (some ⟨V11.heap.size, 0, none⟩) 3 3) = .slice (some ⟨i, 0, none⟩) 3 3 := ⟨_, rfl⟩
    rw [show (V11.alloc (.cells ([.slice a2 2 c2, .slice (some ⟨i11, 0, none⟩) 4 4, .slice a7 7 c7] : List Value).toArray 23)) = V12 from hV12] at hL12
    rw [hV12] at XA12 XC12 s12 ⊢
    rw [hi12] at hL12 ⊢
    clear hV12 hi12
    have hI12 := Rd.ext (hI11) XC12
    have BQ12 := BQ11.ext XC12
    have hcn := rep_concat (n := n) (l := l) (.slice (some ⟨i12, 0, none⟩) 3 3) [.slice a2 2 c2, .slice (some ⟨i11, 0, none⟩) 4 4, .slice a7 7 c7] V12 (hL12) (Rd.ext hA.out (XA12)) (hI12) (Rd.ext hB.out (XA12))
    refine callVD 14 25 #[(.slice (some ⟨i12, 0, none⟩) 3 3)] rfl rfl (by kernel_rfl) (by rfl) (by go_simp) hcn ?_
    rintro x V13 ⟨v9, rfl, hO13, hX13⟩
    obtain ⟨a9, c9, rfl, -⟩ := own_shape hO13
    have hC13 := Rd.of_own hO13
    have XA13 := (XA12).trans hX13
    have s13 := hX13.cell s12
    refine Or.inl ⟨_, rfl, fun _ => s13, ?_⟩
    try simp only [Act.put, List.setIfInBounds_toArray, List.set_cons_zero, List.set_cons_succ]
    have hne13 : (Value.slice a9 13 c9).ownBlock ≠ some q := fun hv => by have h1 := (own_lt hO13 hv).1; have h2 := (BQ12).lt; omega
    have BQ13 := BQ12.ext hX13
    refine takeD 15 [] (.agg #[.slice none 0 0, .int .i64 1, .slice a9 13 c9]) rfl rfl (by kernel_rfl) (by kernel_rfl) (by kernel_rfl) (by kernel_rfl) (by decide) (by decide) (fun _ _ _ h => hQ 70 h) (by rfl) (fun w' hw' => by go_simp) s13 ?_
    try simp only [List.setIfInBounds_toArray, List.set_cons_zero, List.set_cons_succ]
    have BQ2 := BQ13
    have fz0 := BQ2.frozen 0
    have fz1 := BQ2.frozen 1
    have fz2 := BQ2.frozen 2
    have cz0 := BQ2.cell 0 _ rfl
    have cz1 := BQ2.cell 1 _ rfl
    have cz2 := BQ2.cell 2 _ rfl
    have c50 : Chg [q] V13 (((V13.setCell ⟨q, 0, none⟩ (.slice none 0 0)).setCell ⟨q, 1, none⟩ (.int .i64 1)).setCell ⟨q, 2, none⟩ (.slice a9 13 c9)) := (((Chg.refl _ _).setCell (p := ⟨q, 0, none⟩) (Or.inl (by simp)) _).setCell (p := ⟨q, 1, none⟩) (Or.inl (by simp)) _).setCell (p := ⟨q, 2, none⟩) (Or.inl (by simp)) _
    have hqp : q ≠ p := by have := BP.out.lt; omega
    have hS2 := c50.cell (show p ∉ [q] by simp; omega) s13
    have hCF := (hC13).chg c50 (fun x hx _ hv => by rw [List.mem_singleton.1 hx] at hv; exact hne13 hv)
    have hEF := (((XA13).setCell (p := ⟨q, 0, none⟩) hqW (.slice none 0 0)).setCell (p := ⟨q, 1, none⟩) hqW (.int .i64 1)).setCell (p := ⟨q, 2, none⟩) hqW (.slice a9 13 c9)
    have hBF := ((BQ2.set 0 (.slice none 0 0)).set 1 (.int .i64 1)).set 2 (.slice a9 13 c9)
    refine storeD 17 rfl rfl (by kernel_rfl) (by rfl) (w' := (((V13.setCell ⟨q, 0, none⟩ (.slice none 0 0)).setCell ⟨q, 1, none⟩ (.int .i64 1)).setCell ⟨q, 2, none⟩ (.slice a9 13 c9))) (by go_simp) (fun _ => hS2) ?_
    refine wpAnyD_done (by kernel_rfl) ?_ _
    exact hk q a9 c9 _ _ _ hEF hBF hCF
end Go.Proofs.YtgjjklajipekdaaGreat
