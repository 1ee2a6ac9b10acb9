/- The reference's encoder: copies and carries. -/
import Derived.Test.YtnodnfmgklkjeaaCe
namespace Go.Proofs.Ytnodnfmgklkjeaa
open Go.RowKit
set_option linter.unusedVariables false
attribute [local go_sem ↓] Go.wp_at_zero Go.wp_at_succ

theorem rbytes_any (v : Value) (l : List Int) (hl : l.length ≤ 900000) (w : World) (h : Rd8 w v l) :
    Calls Try.prog 38 #[v] w fun x w' => ∃ v', x = .returned v' ∧ Own8 w' w.heap.size v' l ∧ Ext w w' := by
  obtain ⟨a, cap, rfl, h1, h2, h3⟩ := Rd.shape h
  obtain ⟨i0, hi, hz0, hz1, hz2⟩ := info_parts u8info
  cases a with
  | none =>
    have hc := h3 rfl
    subst hc
    have hl0 : l.length = 0 := by omega
    rw [hl0]
    have he : Hid (l = []) := List.eq_nil_of_length_eq_zero hl0
    clear hl0 h1 hl h
    go_enter Try.func38, Try.ntmps38
    go_wp2_with fail
    go_ret
    exact ⟨_, rfl, by rw [he.out]; exact World.ownsRow_nil _ _ _ _, Ext.refl _⟩
  | some ad =>
    have hr := h
    have H := hidden h
    clear h
    go_enter Try.func38, Try.ntmps38
    go_wp2_with (at_builtin; refine wpList_append_own _ rfl _ _ 23 rfl w.heap.size 5 i0 (.int .u8 0) 1 1 Try.underlying23 hi hz0 hz1 hz2 rfl (by decide) _ 0 [] rfl (World.ownsRow_nil _ _ _ _) ad l.length cap (bs l) rfl (by simp [bs]) (Rd.news hr) (bs_one l) (by unfold maxLen; omega) (by omega) (by simp) ?_; intro v1 w1 hown hgrow hnil)
    go_ret
    refine ⟨v1, rfl, ?_, ?_⟩
    · rw [Nat.zero_add, List.nil_append] at hown
      exact hown
    · exact ((Chg.refl [] w).grown hgrow (fun k hk => by cases hk)).ext

set_option maxHeartbeats 400000 in
theorem rcarry_any (v : Value) (l : List Int) (hb : Bytes l) (hl : l.length ≤ 900000) (w : World) (h : Rd8 w v l) :
    Calls Try.prog 39 #[v] w fun x w' => ∃ v', x = .returned v' ∧ Own8 w' w.heap.size v' (carryL l) ∧ Ext w w' := by
  go_enter Try.func39, Try.ntmps39
  go_wp2_with fail
  refine (rbytes_any v l hl _ h).mono ?_
  rintro x w1 ⟨v1, rfl, hO, g1⟩
  rcases hO.shape with ⟨rfl, rfl⟩ | ⟨g, cap, rfl, q1, q2, q3, q4⟩
  · go_wp2_with fail
    refine wp_loop_rounds 1 ?_
    rw [rounds_succ]
    go_wp2_with fail
    go_ret
    exact ⟨_, rfl, hO, g1⟩
  · go_wp2_with fail
    go_loopw [4] (fun i wr => ∃ k : Nat, k ≤ l.length ∧ i = .int .i64 ((k : Int) - 1) ∧ (∃ cur, Own8 wr w.heap.size (.slice (some ⟨g, 0, none⟩) l.length cap) cur ∧ cur.length = l.length ∧ Hid (cur.take k = l.take k ∧ carryL l = carryL (l.take k) ++ cur.drop k)) ∧ Ext w wr) (fun i _ => (intOf i + 1).toNat)
    case atStart => exact ⟨l.length, Nat.le_refl _, rfl, ⟨l, hO, rfl, ⟨rfl, by simp⟩⟩, g1⟩
    case round =>
      obtain ⟨k, hk, rfl, ⟨cur, hO1, hcl, hq⟩, hch⟩ := hrel
      by_cases h0 : k = 0
      · subst h0
        go_wp2_with fail
        go_ret
        have e := hq.out.2
        simp only [List.take_zero, carryL_nil, List.nil_append, List.drop_zero] at e
        exact ⟨_, rfl, by rw [e]; exact hO1, hch⟩
      · obtain ⟨j, rfl⟩ : ∃ j, k = j + 1 := ⟨k - 1, by omega⟩
        obtain ⟨x, hx⟩ : ∃ x, cur.getD j 0 = x := ⟨_, rfl⟩
        have hxl : l.getD j 0 = x := by
          rw [← hx]
          have := congrArg (fun m => m[j]?) hq.out.1
          simp only [List.getElem?_take, if_pos (show j < j + 1 by omega)] at this
          simp [List.getD, this]
        have hxb := hb.get j (by omega)
        rw [hxl] at hxb
        obtain ⟨hx0, hx1⟩ := hxb
        have hO2 : wr.ownsRow w.heap.size 5 1 (.slice (some ⟨g, 0, none⟩) l.length cap) l.length (bs cur) := by have := hO1; unfold Own8 at this; rw [hcl] at this; exact this
        have hcx : wr.cell? ⟨g, j, none⟩ = some (.int .u8 x) := by
          rw [World.ownsRow.cellAt hO2 j (by omega), ← hx]
          simp [bs, List.getD, show j < cur.length by omega]
        have hfx := World.ownsRow.frozenAt hO2 j
        have hset : ∀ u, Own8 (wr.setCell ⟨g, j, none⟩ (.int .u8 u)) w.heap.size (.slice (some ⟨g, 0, none⟩) l.length cap) (cur.set j u) := fun u => by
          have := (World.ownsRow.stored hO2 j (.int .u8 u)).1
          unfold Own8
          rw [bs_set] at this
          rw [List.length_set, hcl]
          exact this
        have Hset := hidden hset
        have Hx := hidden hx
        have Hxl := hidden hxl
        have hC : ∀ u, Ext w (wr.setCell ⟨g, j, none⟩ u) := fun u => hch.setCell q1 u
        have HC := hidden hC
        clear hset hx hxl hC
        have hjl : (j : Int) < (l.length : Int) := by omega
        rw [show (((j + 1 : Nat) : Int) - 1) = (j : Int) by omega]
        by_cases h255 : x = 255
        · have hz : ((x + 1) % 256 == 0) = true := by subst h255; rfl
          have H255 := hidden h255
          clear h255
          have hN := hidden (carry_hit l cur j (by omega) hcl hq.out (by rw [Hxl.out, H255.out]))
          go_wp2_with fail
          go_roundw
          case rel => exact ⟨j, by omega, rfl, ⟨cur.set j 0, by have := Hset.out 0; rw [show (0 : Int) = (x + 1) % 256 by rw [H255.out]; rfl] at this ⊢; exact this, by rw [List.length_set]; exact hcl, hN.out⟩, HC.out _⟩
          case measure => simp [intOf] <;> omega
        · have hz : ((x + 1) == 0) = false := by simp; omega
          have hN := hidden (carry_done l cur j (by omega) hcl hq.out (by rw [Hxl.out]; exact h255))
          go_wp2_with fail
          go_ret
          refine ⟨_, rfl, ?_, HC.out _⟩
          have := Hset.out (x + 1)
          have e := hN.out
          rw [Hxl.out] at e
          rw [e] at this
          exact this

theorem rcheck_any (lo wd : Int) (v : Value) (l : List Int) (w : World) (h : Rd8 w v l) :
    Calls Try.prog 18 #[.agg #[.int .u32 lo, .int .u32 wd, v]] w fun x w' => x = .returned (.int .i64 (chk wd l.length)) ∧ Ext w w' := by
  obtain ⟨a, cap, rfl, h1, h2, h3⟩ := Rd.shape h
  clear h
  by_cases c1 : wd < 16777216
  · go_enter Try.func18, Try.ntmps18
    go_wp2_with fail
    go_ret
    exact ⟨ret_int (by unfold chk; rw [if_pos c1]), (Ext.refl _).alloc _⟩
  · by_cases c2 : 65536 < l.length
    · have c2' : (65536 : Int) < (l.length : Int) := by omega
      go_enter Try.func18, Try.ntmps18
      go_wp2_with fail
      go_ret
      exact ⟨ret_int (by unfold chk; rw [if_neg (by omega), if_pos c2]), (Ext.refl _).alloc _⟩
    · have c2' : ¬ (65536 : Int) < (l.length : Int) := by omega
      go_enter Try.func18, Try.ntmps18
      go_wp2_with fail
      go_ret
      exact ⟨ret_int (by unfold chk; rw [if_neg (by omega), if_neg c2]), (Ext.refl _).alloc _⟩
end Go.Proofs.Ytnodnfmgklkjeaa
