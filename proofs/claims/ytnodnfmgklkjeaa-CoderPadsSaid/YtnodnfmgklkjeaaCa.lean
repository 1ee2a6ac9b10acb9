/- Contracts of the coder's small functions. -/
import Derived.Test.YtnodnfmgklkjeaaCp
import Derived.Test.YtnodnfmgklkjeaaRows
import Derived.Deep.LoopGhost
namespace Go.Proofs.Ytnodnfmgklkjeaa
open Go.RowKit
set_option linter.unusedVariables false
attribute [local go_sem ↓] Go.wp_at_zero Go.wp_at_succ

theorem bound_any (r p : Int) (hr0 : 0 ≤ r) (hr1 : r ≤ 4294967295) (hp0 : 0 ≤ p) (hp1 : p ≤ 4095) (w : World) :
    Calls Try.prog 52 #[.agg #[.int .u32 r], .int .i64 p] w fun x w' => x = .returned (.int .u32 (r / 4096 * p)) ∧ Ext w w' := by
  obtain ⟨b0, b1, b2⟩ := bound_bd r p hr0 hr1 hp0 hp1
  go_enter Try.func52, Try.ntmps52
  go_wp2_with fail
  go_ret
  exact ⟨ret_int (by omega), (Ext.refl _).alloc _⟩

theorem small_any (r : Int) (w : World) :
    Calls Try.prog 51 #[.agg #[.int .u32 r]] w fun x w' => x = .returned (.bool (decide (r < 16777216))) ∧ Ext w w' := by
  go_enter Try.func51, Try.ntmps51
  go_wp2_with fail
  go_ret
  exact ⟨rfl, (Ext.refl _).alloc _⟩

/-- A bit's part is chosen: the width in the block's first cell. -/
theorem narrow_any (b : Nat) (t : TypeId) (r bit p : Int) (y z : Value) (hr0 : 0 ≤ r) (hr1 : r ≤ 4294967295) (hp0 : 0 ≤ p) (hp1 : p ≤ 4095) (w : World) (hB : Blk w b t [.int .u32 r, y, z]) :
    Calls Try.prog 49 #[.pointer (some ⟨b, 0, none⟩), .int .i64 bit, .int .i64 p] w fun x w' =>
      x = .returned (.int .u32 (if bit = 1 then 0 else r / 4096 * p)) ∧ Blk w' b t [.int .u32 (encWd r p bit), y, z] ∧ Chg [b] w w' := by
  obtain ⟨b0, b1, b2⟩ := bound_bd r p hr0 hr1 hp0 hp1
  have hc := hB.cell 0 _ rfl
  have hf := hB.frozen 0
  by_cases h : bit = 1
  · subst h
    go_enter Try.func49, Try.ntmps49
    go_wp2_with fail
    refine (bound_any _ _ (by omega) (by omega) (by omega) (by omega) _).mono ?_
    rintro x w1 ⟨rfl, g1⟩
    have hB1 := hB.ext g1
    have hc1 := hB1.cell 0 _ rfl
    have hf1 := hB1.frozen 0
    go_wp2_with fail
    go_ret
    exact ⟨ret_int rfl, by unfold encWd; rw [if_pos rfl]; exact hB1.set 0 _, (Chg.of_ext _ g1).setCell (Or.inl (by simp)) _⟩
  · have hz : (bit == 1) = false := by simp [h]
    have h' := hidden h
    clear h
    go_enter Try.func49, Try.ntmps49
    go_wp2_with fail
    refine (bound_any _ _ (by omega) (by omega) (by omega) (by omega) _).mono ?_
    rintro x w1 ⟨rfl, g1⟩
    have hB1 := hB.ext g1
    have hc1 := hB1.cell 0 _ rfl
    have hf1 := hB1.frozen 0
    go_wp2_with fail
    go_ret
    refine ⟨ret_int rfl, ?_, (Chg.of_ext _ g1).setCell (Or.inl (by simp)) _⟩
    unfold encWd
    rw [if_neg h'.out]
    exact hB1.set 0 _

/-- Owned bytes. -/
def Own8 (w : World) (B : Nat) (v : Value) (l : List Int) : Prop := w.ownsRow B 5 1 v l.length (bs l)
theorem Own8.shape {w : World} {B : Nat} {v : Value} {l : List Int} (h : Own8 w B v l) :
    (v = .slice none 0 0 ∧ l = []) ∨ ∃ g cap, v = .slice (some ⟨g, 0, none⟩) l.length cap ∧ B ≤ g ∧ g < w.heap.size ∧ l.length ≤ cap ∧ cap ≤ 9223372036854775807 := by
  rcases h.2 with ⟨h1, h2⟩ | ⟨g, cap, cur, hv, hb, hg, h1, h2, _⟩
  · exact Or.inl ⟨h1, List.eq_nil_of_length_eq_zero h2⟩
  · exact Or.inr ⟨g, cap, hv, hb, (Array.getElem?_eq_some_iff.1 hg).1, h1, h2⟩

set_option maxHeartbeats 400000 in
theorem carry_some (p g cap B : Nat) (x y : Value) (l : List Int) (hb : Bytes l) (hpg : p ≠ g) (hl : l.length ≤ 1000000) (w : World) (hB : Blk w p 77 [x, y, .slice (some ⟨g, 0, none⟩) l.length cap])
    (hO : Own8 w B (.slice (some ⟨g, 0, none⟩) l.length cap) l) :
    Calls Try.prog 50 #[.pointer (some ⟨p, 0, none⟩)] w fun e w' =>
      e = .returned (.tuple #[]) ∧ Own8 w' B (.slice (some ⟨g, 0, none⟩) l.length cap) (carryL l) ∧ Chg [g] w w' := by
  have hc := hB.cell 2 _ rfl
  go_enter Try.func50, Try.ntmps50
  go_step3
  go_wp2_with fail
  go_step3
  go_wp2_with fail
  go_loopw [2] (fun i wr => ∃ k : Nat, k ≤ l.length ∧ i = .int .i64 ((k : Int) - 1) ∧ (∃ cur, Own8 wr B (.slice (some ⟨g, 0, none⟩) l.length cap) cur ∧ cur.length = l.length ∧ Hid (cur.take k = l.take k ∧ carryL l = carryL (l.take k) ++ cur.drop k)) ∧ Chg [g] w wr) (fun i _ => (intOf i + 1).toNat)
  case atStart => exact ⟨l.length, Nat.le_refl _, rfl, ⟨l, hO, rfl, ⟨rfl, by simp⟩⟩, Chg.refl _ _⟩
  case round =>
    obtain ⟨k, hk, rfl, ⟨cur, hO1, hcl, hq⟩, hch⟩ := hrel
    have hBr := hB.chg hch (by simpa using hpg)
    have hcr := hBr.cell 2 _ rfl
    by_cases h0 : k = 0
    · subst h0
      go_wp2_with fail
      simp only [Exit.noGoto]
      go_end0
      refine ⟨rfl, ?_, hch⟩
      have e := hq.out.2
      simp only [List.take_zero, carryL_nil, List.nil_append, List.drop_zero] at e
      rw [e]
      exact hO1
    · obtain ⟨j, rfl⟩ : ∃ j, k = j + 1 := ⟨k - 1, by omega⟩
      obtain ⟨x, hx⟩ : ∃ x, cur.getD j 0 = x := ⟨_, rfl⟩
      have hxl : l.getD j 0 = x := by
        rw [← hx]
        have := congrArg (fun m => m[j]?) hq.out.1
        simp only [List.getElem?_take, if_pos (show j < j + 1 by omega)] at this
        simp [List.getD, this]
      have hxb := hb.get j (by omega)
      rw [hxl] at hxb
      obtain ⟨hx0, hx1⟩ := hxb
      have hstep := carry_step l j (by omega)
      rw [hxl] at hstep
      have hO2 : wr.ownsRow B 5 1 (.slice (some ⟨g, 0, none⟩) l.length cap) l.length (bs cur) := by have := hO1; unfold Own8 at this; rw [hcl] at this; exact this
      have hcx : wr.cell? ⟨g, j, none⟩ = some (.int .u8 x) := by
        rw [World.ownsRow.cellAt hO2 j (by omega), ← hx]
        simp [bs, List.getD, show j < cur.length by omega]
      have hfx := World.ownsRow.frozenAt hO2 j
      have hset : ∀ u, Own8 (wr.setCell ⟨g, j, none⟩ (.int .u8 u)) B (.slice (some ⟨g, 0, none⟩) l.length cap) (cur.set j u) := fun u => by
        have := (World.ownsRow.stored hO2 j (.int .u8 u)).1
        unfold Own8
        rw [bs_set] at this
        rw [List.length_set, hcl]
        exact this
      have Hset := hidden hset
      have Hx := hidden hx
      have Hxl := hidden hxl
      have Hst := hidden hstep
      clear hset hx hxl hstep
      have hjl : (j : Int) < (l.length : Int) := by omega
      rw [show (((j + 1 : Nat) : Int) - 1) = (j : Int) by omega]
      by_cases h255 : x = 255
      · have hz : ((x + 1) % 256 == 0) = true := by subst h255; rfl
        have H255 := hidden h255
        clear h255
        have hN := hidden (carry_hit l cur j (by omega) hcl hq.out (by rw [Hxl.out, H255.out]))
        go_wp2_with fail
        go_roundw
        case rel => exact ⟨j, by omega, rfl, ⟨cur.set j 0, by have := Hset.out 0; rw [show (0 : Int) = (x + 1) % 256 by rw [H255.out]; rfl] at this ⊢; exact this, by rw [List.length_set]; exact hcl, hN.out⟩, hch.setCell (Or.inl (by simp)) _⟩
        case measure => simp [intOf] <;> omega
      · have hz : ((x + 1) == 0) = false := by simp; omega
        have hN := hidden (carry_done l cur j (by omega) hcl hq.out (by rw [Hxl.out]; exact h255))
        go_wp2_with fail
        simp only [Exit.noGoto]
        go_end0
        exact ⟨rfl, by have := Hset.out (x + 1); have e := hN.out; rw [Hxl.out] at e; rw [e] at this; exact this, hch.setCell (Or.inl (by simp)) _⟩

end Go.Proofs.Ytnodnfmgklkjeaa
