/- put (any number) and PutInt of package wire. -/
import Derived.Test.YtchkbidekmaaiaaJi2
namespace Go.Proofs.Ytchkbidekmaaiaa
open Go.RowKit
set_option linter.unusedVariables false
theorem wput_any (v : Value) (D : List Int) (n : Int) (hD : D.length ≤ 900000) (w0 w : World) (hE : Ext w0 w) (hO : Own8 w w0.heap.size v D) :
    Calls Try.prog 68 #[v, .int .i64 n] w fun x w' => ∃ v', x = .returned v' ∧ Own8 w' w0.heap.size v' (D ++ wenc (wnum n)) ∧ Ext w0 w' := by
  obtain ⟨m, hm⟩ : ∃ m, wnum n = m := ⟨_, rfl⟩
  have hb := wnum_bd n
  rw [hm] at hb ⊢
  obtain ⟨m0, m1⟩ := hb
  have h7 := fur_7 m m0 m1
  obtain ⟨k, hk⟩ : ∃ k, fur m = k := ⟨_, rfl⟩
  rw [hk] at h7
  match k, h7, hk with
  | 0, _, hk => exact wput_0 v D n m hm m0 m1 hk hD w0 w hE hO
  | 1, _, hk => exact wput_1 v D n m hm m0 m1 hk hD w0 w hE hO
  | 2, _, hk => exact wput_2 v D n m hm m0 m1 hk hD w0 w hE hO
  | 3, _, hk => exact wput_3 v D n m hm m0 m1 hk hD w0 w hE hO
  | 4, _, hk => exact wput_4 v D n m hm m0 m1 hk hD w0 w hE hO
  | 5, _, hk => exact wput_5 v D n m hm m0 m1 hk hD w0 w hE hO
  | 6, _, hk => exact wput_6 v D n m hm m0 m1 hk hD w0 w hE hO
  | 7, _, hk => exact wput_7 v D n m hm m0 m1 hk hD w0 w hE hO
  | k + 8, h7, _ => omega
theorem wputint_any (v : Value) (D : List Int) (n : Int) (hD : D.length ≤ 900000) (w : World) (h : Rd8 w v D) :
    Calls Try.prog 33 #[v, .int .i64 n] w fun x w' => ∃ v', x = .returned v' ∧ Own8 w' w.heap.size v' (D ++ wenc (wnum n)) ∧ Ext w w' := by
  go_enter Try.func33, Try.ntmps33
  go_wp2_with fail
  refine (clone_any v D hD _ h).mono ?_
  rintro e w1 ⟨v1, rfl, hO1, g1⟩
  go_wp2_with fail
  refine (wput_any v1 D n hD w _ g1 hO1).mono ?_
  rintro e w2 ⟨v2, rfl, hO2, g2⟩
  go_wp2_with fail
  go_ret
  exact ⟨v2, rfl, hO2, g2⟩
end Go.Proofs.Ytchkbidekmaaiaa
