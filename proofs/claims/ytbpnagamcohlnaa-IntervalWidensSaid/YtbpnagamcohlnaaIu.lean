/- Apply of layer 19, whole. -/
import Derived.Test.YtbpnagamcohlnaaIt
namespace Go.Proofs.Ytbpnagamcohlnaa
open Go.RowKit
set_option linter.unusedVariables false


theorem iv_rule (op : Int) (f : Nat) (a b c d : Int) (hl : ∀ w : World, (Instr.lookup 53 (.map (some w.heap.size)) (.int .i64 op) true).run Try.prog (w.alloc (tblObj rulT)) = .ok (.tuple #[.func (.func f) #[] #[], .bool true]) (w.alloc (tblObj rulT))) (h1 : Ivl a b) (h2 : Ivl c d) (hent : ∀ (args : Array Value) (w : World), (callFunc f args).run Try.prog w = .ok (Next.enter f args) w) (L H : Int) (hcall : ∀ w : World, Calls Try.prog f #[.agg #[.int .i64 a, .int .i64 b, .int .i64 c, .int .i64 d]] w fun x w' => x = .returned (.agg #[.int .i64 L, .int .i64 H]) ∧ Ext w w')
    (hne : ¬ (a = b ∧ c = d)) (hz : c = 0 → op ≠ 11 ∧ op ≠ 12) (w : World) : Calls Try.prog 10 #[.int .i64 op, .agg #[.int .i64 a, .int .i64 b], .agg #[.int .i64 c, .int .i64 d]] w fun x w' => x = .returned (.tuple #[.agg #[.int .i64 L, .int .i64 H], .int .i64 0]) ∧ Ext w w' := by
  by_cases k1 : a = b
  · have k2 : ¬ c = d := fun e => hne ⟨k1, e⟩
    by_cases k3 : c = 0
    · have hz := hz k3
      exact iv_r4 a b c d op f hl h1 h2 hent L H hcall (by simp [k1]) (by simp [k2]) (by simp [k3]) (by simp [hz.1]) (by simp [hz.2]) w
    · exact iv_r2 a b c d op f hl h1 h2 hent L H hcall (by simp [k1]) (by simp [k2]) (by simp [k3]) w
  · by_cases k3 : c = 0
    · have hz := hz k3
      exact iv_r3 a b c d op f hl h1 h2 hent L H hcall (by simp [k1]) (by simp [k3]) (by simp [hz.1]) (by simp [hz.2]) w
    · exact iv_r1 a b c d op f hl h1 h2 hent L H hcall (by simp [k1]) (by simp [k3]) w
theorem iv_exact (op : Int) (f : Nat) (a b c d : Int) (hl : ∀ w : World, (Instr.lookup 53 (.map (some w.heap.size)) (.int .i64 op) true).run Try.prog (w.alloc (tblObj rulT)) = .ok (.tuple #[.func (.func f) #[] #[], .bool true]) (w.alloc (tblObj rulT))) (h1 : Ivl a b) (h2 : Ivl c d) (hop0 : 8 ≤ op) (hop1 : op ≤ 26) (ha : a = b) (hc : c = d) (hz : c = 0 → op ≠ 11 ∧ op ≠ 12) (w : World) : Calls Try.prog 10 #[.int .i64 op, .agg #[.int .i64 a, .int .i64 b], .agg #[.int .i64 c, .int .i64 d]] w fun x w' => x = .returned (.tuple #[.agg #[.int .i64 (apV op a c), .int .i64 (apV op a c)], .int .i64 0]) ∧ Ext w w' := by
  subst ha hc
  by_cases k3 : c = 0
  · have hy := hz k3
    subst k3
    exact iv_ex0 a a 0 0 op f hl h1 h2 (by simp [hy.1]) (by simp [hy.2]) (apF_in hop0 hop1 (Or.inr hy)) w
  · exact iv_ex1 a a c c op f hl h1 h2 (by simp [k3]) (apF_in hop0 hop1 (Or.inl k3)) w
set_option maxHeartbeats 1000000 in
theorem ivapply_any (op a b c d : Int) (w : World) : Calls Try.prog 10 #[.int .i64 op, .agg #[.int .i64 a, .int .i64 b], .agg #[.int .i64 c, .int .i64 d]] w fun x w' => x = .returned (.tuple #[.agg #[.int .i64 (iaF op a b c d).1, .int .i64 (iaF op a b c d).2.1], .int .i64 (iaF op a b c d).2.2]) ∧ Ext w w' := by
  by_cases h1 : Ivl a b
  · by_cases h2 : Ivl c d
    · have e1 := chk_ok h1
      have e2 := chk_ok h2
      by_cases hop : op < 8 ∨ 26 < op
      · rw [show iaF op a b c d = (0, 0, 1) by unfold iaF; rw [if_neg (by omega), if_neg (by omega), if_pos hop]]
        exact iv_arg a b c d op h1 h2 hop w
      · by_cases hz : c = 0 ∧ (op = 11 ∨ op = 12)
        · rw [show iaF op a b c d = (0, 0, 17) by unfold iaF; rw [if_neg (by omega), if_neg (by omega), if_neg hop, if_pos hz]]
          obtain ⟨hz1, rfl | rfl⟩ := hz
          · exact iv_div11 a b c d h1 h2 hz1 w
          · exact iv_div12 a b c d h1 h2 hz1 w
        · by_cases hcmp : 20 < op
          · rw [show iaF op a b c d = (0, 1, 0) by unfold iaF; rw [if_neg (by omega), if_neg (by omega), if_neg hop, if_neg hz, if_pos hcmp]]
            exact iv_cmp a b c d op h1 h2 (by omega) (by omega) w
          · have hz' : c = 0 → op ≠ 11 ∧ op ≠ 12 := by intro e; omega
            have hcs : op = 8 ∨ op = 9 ∨ op = 10 ∨ op = 11 ∨ op = 12 ∨ op = 13 ∨ op = 14 ∨ op = 15 ∨ op = 16 ∨ op = 17 ∨ op = 18 ∨ op = 19 ∨ op = 20 := by omega
            by_cases hex : a = b ∧ c = d
            · rw [show iaF op a b c d = (apV op a c, apV op a c, 0) by unfold iaF; rw [if_neg (by omega), if_neg (by omega), if_neg hop, if_neg hz, if_neg hcmp, if_pos hex]]
              rcases hcs with rfl | rfl | rfl | rfl | rfl | rfl | rfl | rfl | rfl | rfl | rfl | rfl | rfl
              · exact iv_exact 8 37 a b c d (fun w => rul_look w 8 _ rfl) h1 h2 (by omega) (by omega) hex.1 hex.2 hz' w
              · exact iv_exact 9 38 a b c d (fun w => rul_look w 9 _ rfl) h1 h2 (by omega) (by omega) hex.1 hex.2 hz' w
              · exact iv_exact 10 39 a b c d (fun w => rul_look w 10 _ rfl) h1 h2 (by omega) (by omega) hex.1 hex.2 hz' w
              · exact iv_exact 11 40 a b c d (fun w => rul_look w 11 _ rfl) h1 h2 (by omega) (by omega) hex.1 hex.2 hz' w
              · exact iv_exact 12 41 a b c d (fun w => rul_look w 12 _ rfl) h1 h2 (by omega) (by omega) hex.1 hex.2 hz' w
              · exact iv_exact 13 42 a b c d (fun w => rul_look w 13 _ rfl) h1 h2 (by omega) (by omega) hex.1 hex.2 hz' w
              · exact iv_exact 14 43 a b c d (fun w => rul_look w 14 _ rfl) h1 h2 (by omega) (by omega) hex.1 hex.2 hz' w
              · exact iv_exact 15 44 a b c d (fun w => rul_look w 15 _ rfl) h1 h2 (by omega) (by omega) hex.1 hex.2 hz' w
              · exact iv_exact 16 45 a b c d (fun w => rul_look w 16 _ rfl) h1 h2 (by omega) (by omega) hex.1 hex.2 hz' w
              · exact iv_exact 17 46 a b c d (fun w => rul_look w 17 _ rfl) h1 h2 (by omega) (by omega) hex.1 hex.2 hz' w
              · exact iv_exact 18 47 a b c d (fun w => rul_look w 18 _ rfl) h1 h2 (by omega) (by omega) hex.1 hex.2 hz' w
              · exact iv_exact 19 48 a b c d (fun w => rul_look w 19 _ rfl) h1 h2 (by omega) (by omega) hex.1 hex.2 hz' w
              · exact iv_exact 20 49 a b c d (fun w => rul_look w 20 _ rfl) h1 h2 (by omega) (by omega) hex.1 hex.2 hz' w
            · rw [show iaF op a b c d = (rulL op a b c d, rulH op a b c d, 0) by unfold iaF; rw [if_neg (by omega), if_neg (by omega), if_neg hop, if_neg hz, if_neg hcmp, if_neg hex]]
              obtain ⟨x0, x1, x2⟩ := h1
              obtain ⟨y0, y1, y2⟩ := h2
              rcases hcs with rfl | rfl | rfl | rfl | rfl | rfl | rfl | rfl | rfl | rfl | rfl | rfl | rfl
              · exact iv_rule 8 37 a b c d (fun w => rul_look w 8 _ rfl) ⟨x0, x1, x2⟩ ⟨y0, y1, y2⟩ (fun _ _ => by kernel_rfl) _ _ (fun w => radd_any a b c d x0 x1 x2 y0 y1 y2 w) hex hz' w
              · exact iv_rule 9 38 a b c d (fun w => rul_look w 9 _ rfl) ⟨x0, x1, x2⟩ ⟨y0, y1, y2⟩ (fun _ _ => by kernel_rfl) _ _ (fun w => rsub_any a b c d x0 x1 x2 y0 y1 y2 w) hex hz' w
              · exact iv_rule 10 39 a b c d (fun w => rul_look w 10 _ rfl) ⟨x0, x1, x2⟩ ⟨y0, y1, y2⟩ (fun _ _ => by kernel_rfl) _ _ (fun w => rmul_any a b c d x0 x1 x2 y0 y1 y2 w) hex hz' w
              · exact iv_rule 11 40 a b c d (fun w => rul_look w 11 _ rfl) ⟨x0, x1, x2⟩ ⟨y0, y1, y2⟩ (fun _ _ => by kernel_rfl) _ _ (fun w => rdiv_any a b c d x0 x1 x2 y0 y1 y2 (by omega) w) hex hz' w
              · exact iv_rule 12 41 a b c d (fun w => rul_look w 12 _ rfl) ⟨x0, x1, x2⟩ ⟨y0, y1, y2⟩ (fun _ _ => by kernel_rfl) _ _ (fun w => rmod_any a b c d x0 x1 x2 y0 y1 y2 (by omega) w) hex hz' w
              · exact iv_rule 13 42 a b c d (fun w => rul_look w 13 _ rfl) ⟨x0, x1, x2⟩ ⟨y0, y1, y2⟩ (fun _ _ => by kernel_rfl) _ _ (fun w => rand_any a b c d x0 x1 x2 y0 y1 y2 w) hex hz' w
              · exact iv_rule 14 43 a b c d (fun w => rul_look w 14 _ rfl) ⟨x0, x1, x2⟩ ⟨y0, y1, y2⟩ (fun _ _ => by kernel_rfl) _ _ (fun w => ror_any a b c d x0 x1 x2 y0 y1 y2 w) hex hz' w
              · exact iv_rule 15 44 a b c d (fun w => rul_look w 15 _ rfl) ⟨x0, x1, x2⟩ ⟨y0, y1, y2⟩ (fun _ _ => by kernel_rfl) _ _ (fun w => rxor_any a b c d x0 x1 x2 y0 y1 y2 w) hex hz' w
              · exact iv_rule 16 45 a b c d (fun w => rul_look w 16 _ rfl) ⟨x0, x1, x2⟩ ⟨y0, y1, y2⟩ (fun _ _ => by kernel_rfl) _ _ (fun w => rshl_any a b c d x0 x1 x2 y0 y1 y2 w) hex hz' w
              · exact iv_rule 17 46 a b c d (fun w => rul_look w 17 _ rfl) ⟨x0, x1, x2⟩ ⟨y0, y1, y2⟩ (fun _ _ => by kernel_rfl) _ _ (fun w => rshr_any a b c d x0 x1 x2 y0 y1 y2 w) hex hz' w
              · exact iv_rule 18 47 a b c d (fun w => rul_look w 18 _ rfl) ⟨x0, x1, x2⟩ ⟨y0, y1, y2⟩ (fun _ _ => by kernel_rfl) _ _ (fun w => rleast_any a b c d x0 x1 x2 y0 y1 y2 w) hex hz' w
              · exact iv_rule 19 48 a b c d (fun w => rul_look w 19 _ rfl) ⟨x0, x1, x2⟩ ⟨y0, y1, y2⟩ (fun _ _ => by kernel_rfl) _ _ (fun w => rgreatest_any a b c d x0 x1 x2 y0 y1 y2 w) hex hz' w
              · exact iv_rule 20 49 a b c d (fun w => rul_look w 20 _ rfl) ⟨x0, x1, x2⟩ ⟨y0, y1, y2⟩ (fun _ _ => by kernel_rfl) _ _ (fun w => rhashop_any a b c d x0 x1 x2 y0 y1 y2 w) hex hz' w
    · rw [show iaF op a b c d = (0, 0, chk c d) by unfold iaF; rw [if_neg (by have := chk_ok h1; omega), if_pos (fun e => h2 ((chk_iff c d).1 e))]]
      exact iv_bad2 a b c d op h1 h2 w
  · rw [show iaF op a b c d = (0, 0, chk a b) by unfold iaF; rw [if_pos (fun e => h1 ((chk_iff a b).1 e))]]
    exact iv_bad1 a b c d op h1 w
end Go.Proofs.Ytbpnagamcohlnaa
