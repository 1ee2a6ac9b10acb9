/- The program's push. -/
import Derived.Test.YtfnlekehcaehkaaBb
import Derived.StillTailTactics
import Derived.Deep.CutRange
import Derived.Deep.DeepCutAuto
import Derived.Outline
namespace Go.Proofs.Ytfnlekehcaehkaa
open Go.RowKit
set_option linter.unusedVariables false
attribute [local go_sem ↓] Go.wp_at_zero Go.wp_at_succ

def b2i (x : Bool) : Int := if x then 1 else 0
theorem b2i_01 (x : Bool) : b2i x = 0 ∨ b2i x = 1 := by cases x <;> simp [b2i]

/-- What a tape holds. -/
structure Tape (w : World) (p B : Nat) (v : Value) (D : List Int) (c : Nat) : Prop where
  blk : Blk w p 61 [v, .int .i64 (c : Int)]
  own : Own8 w B v D
  wf : WF D c
theorem Tape.ne {w : World} {p B : Nat} {v : Value} {D : List Int} {c : Nat} (h : Tape w p B v D c) : v.ownBlock ≠ some p := own_ne_blk h.own h.blk (by decide)

/-- A row that grows: it lies where it lay, or in a new block. -/
def Stays (w : World) (v v' : Value) : Prop := ∀ g, v'.ownBlock = some g → v.ownBlock = some g ∨ w.heap.size ≤ g
theorem Stays.refl (w : World) (v : Value) : Stays w v v := fun g h => Or.inl h
theorem Stays.trans {w w1 : World} {v v1 v2 : Value} (h : Stays w v v1) (k : Stays w1 v1 v2) (hs : w.heap.size ≤ w1.heap.size) : Stays w v v2 := fun g hg => by
  rcases k g hg with h1 | h1
  · exact h g h1
  · exact Or.inr (by omega)
theorem Stays.chg {w w1 w2 : World} {p : Nat} {v v1 : Value} (h : Stays w v v1) (k : Chg (p :: v.ownBlock.toList) w w1) (k2 : Chg (p :: v1.ownBlock.toList) w1 w2) : Chg (p :: v.ownBlock.toList) w w2 :=
  k.trans k2 (fun x hx => by
    simp only [List.mem_cons, Option.mem_toList] at hx ⊢
    rcases hx with h1 | h1
    · exact Or.inl (Or.inl h1)
    · rcases h x h1 with h2 | h2
      · exact Or.inl (Or.inr h2)
      · exact Or.inr h2)
def PushPost (p B c : Nat) (v : Value) (D : List Int) (x : Int) (w : World) (e : Ending) (w' : World) : Prop :=
  e = .returned (.tuple #[]) ∧ ∃ v', Tape w' p B v' (psh D c x) (c + 1) ∧ Stays w v v' ∧ Chg (p :: v.ownBlock.toList) w w'

set_option maxHeartbeats 2000000 in
theorem push_any (p B c : Nat) (v : Value) (D : List Int) (x : Bool) (hc : c ≤ 600000) (w : World) (hBw : B ≤ w.heap.size) (h : Tape w p B v D c) :
    Calls Try.prog 31 #[.pointer (some ⟨p, 0, none⟩), .bool x] w (PushPost p B c v D (b2i x) w) := by
  have hwf := h.wf.psh (b2i_01 x)
  have hpb := psh_byte h.wf
  have hlen := pshD_len h.wf
  have hroom := psh_room h.wf
  have hbit := psh_bit h.wf
  have hbD := pshD_bytes (c := c) h.wf.bytes
  have hl : D.length ≤ 80000 := by have := h.wf.len; omega
  have hp2 := pow2_pos (7 - c % 8)
  obtain ⟨i0, hi, hz0, hz1, hz2⟩ := info_parts u8info
  have hB := h.blk
  have hO := h.own
  have hpg := h.ne
  have c0 := hB.cell 0 _ rfl
  have c1 := hB.cell 1 _ rfl
  have f0 := hB.frozen 0
  have f1 := hB.frozen 1
  have hOr := hO.rd
  have hO := hidden hO
  have h10 : (0 : Int) ≤ (c : Int) % 8 := by omega
  have h11 : (c : Int) % 8 < 8 := by omega
  have h12 : ((c : Int) % 8).toNat = c % 8 := by omega
  have h13 : ((c : Int) / 8).toNat = c / 8 := by omega
  have hwf := hidden hwf
  by_cases hm : c % 8 = 0
  · have k1 : ((c : Int) % 8 == 0) = true := by simp; omega
    have e1 : pshD D c = D ++ [0] := by unfold pshD; rw [if_pos hm]
    rw [e1] at hpb hlen hroom hbit hbD
    obtain ⟨D1, hD1⟩ : ∃ d, D ++ [0] = d := ⟨_, rfl⟩
    rw [hD1] at hpb hlen hroom hbit hbD e1
    have hlD1 : D1.length = D.length + 1 := by rw [← hD1]; simp
    have hbs : bs D ++ [.int .u8 0] = bs D1 := by rw [← hD1]; simp [bs]
    clear hD1
    have hlD1 := hidden hlD1
    have hbs := hidden hbs
    have e1 := hidden e1
    have hlD := hidden hlen
    have hbit := hidden hbit
    clear hlen
    have hsz := hBw
    obtain ⟨x0, hx0⟩ : ∃ y, D1.getD (c / 8) 0 = y := ⟨_, rfl⟩
    have hx0 := hidden hx0
    cases x
    · go_enter Try.func31, Try.ntmps31
      go_wp2_with (at_builtin; refine wpList_append_lies _ (by rfl) _ _ 22 (by rfl) B 5 i0 (.int .u8 0) 1 1 Try.underlying22 hi hz0 hz1 hz2 rfl (by decide) v D.length (bs D) (by rfl) (World.ownsRow.alloc hO.out _) ⟨w.heap.size, 0, none⟩ 1 1 [.int .u8 0] (by rfl) (by rfl) (World.news_of_block (cs := #[.int .u8 0]) (t := 5) (fr := (0, 0)) (heap_alloc_new w _)) (by simp [Value.oneCell']) (by omega) (by unfold maxLen; omega) (by omega) (by simp; omega) (w.heap.size + 1) (by simp) ?_; intro g cap w1 hown hgrow hat hlt; have B1 := (hB.alloc (.cells #[.int .u8 0] 5)).grown hgrow hpg; have e0 := B1.cell 0 _ rfl; have e1' := B1.cell 1 _ rfl; have g0 := B1.frozen 0; have g1 := B1.frozen 1)
      have hgp : g ≠ p := by
        intro e
        have := own_ne_blk hown B1 (by decide)
        exact this (by simp [Value.ownBlock, e])
      rw [hbs.out] at hown
      have hown : Own8 w1 B (.slice (some ⟨g, 0, none⟩) (D.length + 1) cap) D1 := by unfold Own8; rw [hlD1.out]; exact hown
      have CA := ((Chg.refl (p :: v.ownBlock.toList) w).alloc (.cells #[.int .u8 0] 5)).grown hgrow (fun k hk => Or.inl (by rw [hk]; simp))
      have B2 := B1.set 0 (.slice (some ⟨g, 0, none⟩) (D.length + 1) cap)
      have O2 := own_chg hown ((Chg.refl [p] w1).setCell (p := ⟨p, 0, none⟩) (Or.inl (by simp)) (.slice (some ⟨g, 0, none⟩) (D.length + 1) cap)) (by intro y hy; simp at hy; subst hy; simpa [Value.ownBlock] using hgp)
      have C2 := CA.setCell (p := ⟨p, 0, none⟩) (Or.inl (by simp)) (.slice (some ⟨g, 0, none⟩) (D.length + 1) cap)
      obtain ⟨W2, hW2⟩ : ∃ W, w1.setCell ⟨p, 0, none⟩ (.slice (some ⟨g, 0, none⟩) (D.length + 1) cap) = W := ⟨_, rfl⟩
      rw [hW2] at B2 O2 C2
      rw [hW2]
      have O2 : Own8 W2 B (.slice (some ⟨g, 0, none⟩) (D.length + 1) cap) D1 := O2
      clear hW2 CA hgrow hown B1 e0 e1' g0 g1 c0 c1 f0 f1 hB hO
      go_wp2_with fail
      go_end0
      have hC := (Chg.refl [p] W2).setCell (p := ⟨p, 1, none⟩) (Or.inl (by simp)) (.int .i64 ((c : Int) + 1))
      refine ⟨rfl, _, ⟨B2.set 1 _, ?_, hwf.out⟩, (fun g0 hg0 => by simp [Value.ownBlock] at hg0; subst hg0; rcases hat with h | h; exact Or.inl h; exact Or.inr (by omega)), C2.setCell (Or.inl (by simp)) _⟩
      have e : psh D c (b2i false) = D1 := by unfold psh b2i; rw [if_neg (by decide)]; exact e1.out
      rw [e]
      exact own_chg O2 hC (by intro y hy; simp at hy; subst hy; simpa [Value.ownBlock] using hgp)
    · go_enter Try.func31, Try.ntmps31
      go_wp2_with (at_builtin; refine wpList_append_lies _ (by rfl) _ _ 22 (by rfl) B 5 i0 (.int .u8 0) 1 1 Try.underlying22 hi hz0 hz1 hz2 rfl (by decide) v D.length (bs D) (by rfl) (World.ownsRow.alloc hO.out _) ⟨w.heap.size, 0, none⟩ 1 1 [.int .u8 0] (by rfl) (by rfl) (World.news_of_block (cs := #[.int .u8 0]) (t := 5) (fr := (0, 0)) (heap_alloc_new w _)) (by simp [Value.oneCell']) (by omega) (by unfold maxLen; omega) (by omega) (by simp; omega) (w.heap.size + 1) (by simp) ?_; intro g cap w1 hown hgrow hat hlt; have B1 := (hB.alloc (.cells #[.int .u8 0] 5)).grown hgrow hpg; have e0 := B1.cell 0 _ rfl; have e1' := B1.cell 1 _ rfl; have g0 := B1.frozen 0; have g1 := B1.frozen 1)
      have hgp : g ≠ p := by
        intro e
        have := own_ne_blk hown B1 (by decide)
        exact this (by simp [Value.ownBlock, e])
      rw [hbs.out] at hown
      have hown : Own8 w1 B (.slice (some ⟨g, 0, none⟩) (D.length + 1) cap) D1 := by unfold Own8; rw [hlD1.out]; exact hown
      have CA := ((Chg.refl (p :: v.ownBlock.toList) w).alloc (.cells #[.int .u8 0] 5)).grown hgrow (fun k hk => Or.inl (by rw [hk]; simp))
      have B2 := B1.set 0 (.slice (some ⟨g, 0, none⟩) (D.length + 1) cap)
      have O2 := own_chg hown ((Chg.refl [p] w1).setCell (p := ⟨p, 0, none⟩) (Or.inl (by simp)) (.slice (some ⟨g, 0, none⟩) (D.length + 1) cap)) (by intro y hy; simp at hy; subst hy; simpa [Value.ownBlock] using hgp)
      have C2 := CA.setCell (p := ⟨p, 0, none⟩) (Or.inl (by simp)) (.slice (some ⟨g, 0, none⟩) (D.length + 1) cap)
      obtain ⟨W2, hW2⟩ : ∃ W, w1.setCell ⟨p, 0, none⟩ (.slice (some ⟨g, 0, none⟩) (D.length + 1) cap) = W := ⟨_, rfl⟩
      rw [hW2] at B2 O2 C2
      rw [hW2]
      have O2 : Own8 W2 B (.slice (some ⟨g, 0, none⟩) (D.length + 1) cap) D1 := O2
      clear hW2 CA hgrow hown B1 e0 e1' g0 g1 c0 c1 f0 f1 hB hO
      have z3 := B2.cell 0 _ rfl
      have z4 := B2.cell 1 _ rfl
      have z5 := B2.frozen 1
      have z1 := Rd8.at O2.rd (c / 8) hroom
      have z2 := O2.frozen (c / 8)
      rw [hx0.out, Nat.zero_add] at z1
      have y1 : IntKind.i64.wrap ((c : Int) / 8) = (c : Int) / 8 := IntWalk.i64_in _ (by omega)
      have y2 : IntKind.i64.wrap ((c : Int) % 8) = (c : Int) % 8 := IntWalk.i64_in _ (by omega)
      have y3 : (0 : Int) ≤ (c : Int) / 8 := by omega
      have y4 : (c : Int) / 8 < (D.length : Int) + 1 := by have := hlD1.out; omega
      have y5 : (c : Int).tmod 8 = (c : Int) % 8 := Int.tmod_eq_emod_of_nonneg (by omega)
      go_upto_region 3 with fail
      go_still_tail 22, (by kernel_rfl)
      change wpList _ _ _ _ _ W2.drew
      have B3 : Blk W2.drew p 61 [.slice (some ⟨g, 0, none⟩) (D.length + 1) cap, .int .i64 (c : Int)] := B2
      have O3 : Own8 W2.drew B (.slice (some ⟨g, 0, none⟩) (D.length + 1) cap) D1 := O2
      have C3 : Chg (p :: v.ownBlock.toList) w W2.drew := C2.drew
      clear z1 z2 z3 z4 z5
      have z3 := B3.cell 0 _ rfl
      have z4 := B3.cell 1 _ rfl
      have z5 := B3.frozen 1
      have z1 := Rd8.at O3.rd (c / 8) hroom
      have z2 := O3.frozen (c / 8)
      rw [hx0.out, Nat.zero_add] at z1
      generalize W2.drew = W3 at *
      go_wp2_with fail
      go_end0
      have hv := hpb.1
      have hor := or_byte x0 (c % 8) (by have := hx0.out; omega) (by have := hx0.out; omega) (by omega) (by rw [← hx0.out]; exact hbit.out)
      have hor1 : bits BinOp.or IntKind.u8 x0 128 = x0 + 2 ^ (7 - c % 8) := by have h := hor.1; rw [show (128 : Int) / 2 ^ (c % 8) = 128 by rw [hm]; rfl] at h; exact h
      rw [hor1]
      have hC := (Chg.refl [p] (W3.setCell ⟨g, c / 8, none⟩ (.int .u8 (x0 + 2 ^ (7 - c % 8))))).setCell (p := ⟨p, 1, none⟩) (Or.inl (by simp)) (.int .i64 ((c : Int) + 1))
      refine ⟨rfl, _, ⟨(B3.set_other (Ne.symm hgp) _).set 1 _, ?_, hwf.out⟩, (fun g0 hg0 => by simp [Value.ownBlock] at hg0; subst hg0; rcases hat with h | h; exact Or.inl h; exact Or.inr (by omega)), (C3.setCell (p := ⟨g, c / 8, none⟩) (by rcases hat with h | h; exact Or.inl (by rw [h]; simp); exact Or.inr (by show w.heap.size ≤ g; omega)) _).setCell (Or.inl (by simp)) _⟩
      have e : psh D c (b2i true) = D1.set (c / 8) (x0 + 2 ^ (7 - c % 8)) := by unfold psh b2i; rw [if_pos (by decide), e1.out, hx0.out]
      rw [e]
      exact own_chg (O3.set (c / 8) _) hC (by intro y hy; simp at hy; subst hy; simpa [Value.ownBlock] using hgp)
  · have k1 : ((c : Int) % 8 == 0) = false := by simp; omega
    have e1 : pshD D c = D := by unfold pshD; rw [if_neg hm]
    rw [e1] at hpb hlen hroom hbit hbD
    have hlo : 0 < D.length := by omega
    have hsh := Own8.shape hO.out
    obtain ⟨g, cap, rfl, hgB, hgl, hcap1, hcap2⟩ : ∃ g cap, v = .slice (some ⟨g, 0, none⟩) D.length cap ∧ B ≤ g ∧ g < w.heap.size ∧ D.length ≤ cap ∧ cap ≤ 9223372036854775807 := by
      rcases hsh with ⟨-, hn⟩ | h
      · rw [hn] at hlo; simp at hlo
      · exact h
    have hgp : g ≠ p := by
      intro e
      exact hpg (by simp [Value.ownBlock, e])
    have hlD1 : Hid (D.length = D.length) := rfl
    have hlD := hidden hlen
    have hbit := hidden hbit
    have e1 := hidden e1
    clear hlen hsh
    obtain ⟨x0, hx0⟩ : ∃ y, D.getD (c / 8) 0 = y := ⟨_, rfl⟩
    have hx0 := hidden hx0
    have O2 := hO.out
    have B2 := hB
    have C2 := Chg.refl (p :: (Value.slice (some ⟨g, 0, none⟩) D.length cap).ownBlock.toList) w
    cases x
    · go_enter Try.func31, Try.ntmps31
      go_wp2_with fail
      go_end0
      have hC := (Chg.refl [p] w).setCell (p := ⟨p, 1, none⟩) (Or.inl (by simp)) (.int .i64 ((c : Int) + 1))
      refine ⟨rfl, _, ⟨B2.set 1 _, ?_, hwf.out⟩, Stays.refl _ _, C2.setCell (Or.inl (by simp)) _⟩
      have e : psh D c (b2i false) = D := by unfold psh b2i; rw [if_neg (by decide)]; exact e1.out
      rw [e]
      exact own_chg O2 hC (by intro y hy; simp at hy; subst hy; simpa [Value.ownBlock] using hgp)
    · go_enter Try.func31, Try.ntmps31
      have z3 := B2.cell 0 _ rfl
      have z4 := B2.cell 1 _ rfl
      have z5 := B2.frozen 1
      have z1 := Rd8.at O2.rd (c / 8) hroom
      have z2 := O2.frozen (c / 8)
      rw [hx0.out, Nat.zero_add] at z1
      have y1 : IntKind.i64.wrap ((c : Int) / 8) = (c : Int) / 8 := IntWalk.i64_in _ (by omega)
      have y2 : IntKind.i64.wrap ((c : Int) % 8) = (c : Int) % 8 := IntWalk.i64_in _ (by omega)
      have y3 : (0 : Int) ≤ (c : Int) / 8 := by omega
      have y4 : (c : Int) / 8 < (D.length : Int) := by have := hlD.out; omega
      have y5 : (c : Int).tmod 8 = (c : Int) % 8 := Int.tmod_eq_emod_of_nonneg (by omega)
      go_upto_region 3 with fail
      go_still_tail 22, (by kernel_rfl)
      change wpList _ _ _ _ _ w.drew
      have B3 : Blk w.drew p 61 [.slice (some ⟨g, 0, none⟩) D.length cap, .int .i64 (c : Int)] := B2
      have O3 : Own8 w.drew B (.slice (some ⟨g, 0, none⟩) D.length cap) D := O2
      have C3 : Chg (p :: (Value.slice (some ⟨g, 0, none⟩) D.length cap).ownBlock.toList) w w.drew := C2.drew
      clear z1 z2 z3 z4 z5
      have z3 := B3.cell 0 _ rfl
      have z4 := B3.cell 1 _ rfl
      have z5 := B3.frozen 1
      have z1 := Rd8.at O3.rd (c / 8) hroom
      have z2 := O3.frozen (c / 8)
      rw [hx0.out, Nat.zero_add] at z1
      generalize w.drew = W3 at *
      go_wp2_with fail
      go_end0
      have hv := hpb.1
      have hor := or_byte x0 (c % 8) (by have := hx0.out; omega) (by have := hx0.out; omega) (by omega) (by rw [← hx0.out]; exact hbit.out)
      rw [hor.1]
      have hC := (Chg.refl [p] (W3.setCell ⟨g, c / 8, none⟩ (.int .u8 (x0 + 2 ^ (7 - c % 8))))).setCell (p := ⟨p, 1, none⟩) (Or.inl (by simp)) (.int .i64 ((c : Int) + 1))
      refine ⟨rfl, _, ⟨(B3.set_other (Ne.symm hgp) _).set 1 _, ?_, hwf.out⟩, Stays.refl _ _, (C3.setCell (p := ⟨g, c / 8, none⟩) (Or.inl (by simp [Value.ownBlock])) _).setCell (Or.inl (by simp)) _⟩
      have e : psh D c (b2i true) = D.set (c / 8) (x0 + 2 ^ (7 - c % 8)) := by unfold psh b2i; rw [if_pos (by decide), e1.out, hx0.out]
      rw [e]
      exact own_chg (O3.set (c / 8) _) hC (by intro y hy; simp at hy; subst hy; simpa [Value.ownBlock] using hgp)
end Go.Proofs.Ytfnlekehcaehkaa
