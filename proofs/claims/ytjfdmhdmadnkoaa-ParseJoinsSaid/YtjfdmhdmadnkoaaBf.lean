/- The program's Check, one, push, put. -/
import Derived.Test.YtjfdmhdmadnkoaaBa
import Derived.BigRegion
import Derived.StillTailTactics
import Derived.Deep.CutRange
import Derived.Deep.DeepCutAuto
import Derived.Outline
import Derived.Laws.BitsAllLaws
import Derived.Test.YtjfdmhdmadnkoaaShelf
import Derived.Deep.RegionHeld3
import Derived.Lib.ItoaNum
namespace Go.Proofs.Ytjfdmhdmadnkoaa
open Go.RowKit
set_option linter.unusedVariables false
attribute [local go_sem ↓] Go.wp_at_zero Go.wp_at_succ

/-- The error of a bit string. -/
def chkb (D : List Int) (c : Int) : Int :=
  if c < 0 ∨ 524288 < c then 2 else if (D.length : Int) ≠ (c + 7) / 8 then 3 else if c % 8 ≠ 0 ∧ D.getD (D.length - 1) 0 * 2 ^ (c % 8).toNat % 256 ≠ 0 then 3 else 0
theorem chkb_wf {D : List Int} {c : Int} (hb : Bytes D) (h : chkb D c = 0) : 0 ≤ c ∧ c ≤ 524288 ∧ WF D c.toNat := by
  unfold chkb at h
  split at h
  · cases h
  · next h1 =>
    split at h
    · cases h
    · next h2 =>
      split at h
      · cases h
      · next h3 =>
        refine ⟨by omega, by omega, hb, by omega, ?_⟩
        intro i hi hl
        by_cases hm : c % 8 = 0
        · omega
        · have h4 : D.getD (D.length - 1) 0 * 2 ^ (c % 8).toNat % 256 = 0 := by
            rcases Classical.em (D.getD (D.length - 1) 0 * 2 ^ (c % 8).toNat % 256 = 0) with h | h
            · exact h
            · exact absurd ⟨hm, h⟩ h3
          have hx := getD_bd8 hb (D.length - 1)
          rw [tail_byte _ _ hx.1 hx.2 (by omega)] at h4
          have := h4 (i % 8) (by omega) (by omega)
          rw [gb_bt, show i / 8 = D.length - 1 by omega]
          exact this
theorem wf_chkb {D : List Int} {c : Nat} (h : WF D c) (hc : c ≤ 524288) : chkb D c = 0 := by
  have hl := h.len
  unfold chkb
  rw [if_neg (by omega), if_neg (by omega), if_neg ?_]
  rintro ⟨h1, h2⟩
  apply h2
  have hx := getD_bd8 h.bytes (D.length - 1)
  rw [tail_byte _ _ hx.1 hx.2 (by omega)]
  intro j hj hj8
  have := h.past (8 * (D.length - 1) + j) (by omega)
  rw [gb_bt, show (8 * (D.length - 1) + j) / 8 = D.length - 1 by omega, show (8 * (D.length - 1) + j) % 8 = j by omega] at this
  exact this

set_option maxHeartbeats 1000000 in
theorem check_any (v : Value) (D : List Int) (c : Int) (hb : Bytes D) (hl : D.length ≤ 1000000) (hc0 : -9223372036854775808 ≤ c) (hc1 : c ≤ 9223372036854775807) (w : World) (h : Rd8 w v D) :
    Calls Try.prog 73 #[.agg #[v, .int .i64 c]] w fun x w' => x = .returned (.int .i64 (chkb D c)) ∧ Ext w w' := by
  obtain ⟨a, cap, rfl, h1, h2, h3⟩ := Rd.shape h
  have B0 := Blk.new w [.slice a D.length cap, .int .i64 c] 91
  have c0 := B0.cell 0 _ rfl
  have c1 := B0.cell 1 _ rfl
  by_cases k1 : c < 0
  · have hr : Hid (chkb D c = 2) := by unfold chkb; exact if_pos (Or.inl k1)
    go_enter Try.func73, Try.ntmps73
    go_wp2_with fail
    go_ret
    exact ⟨ret_int hr.out.symm, (Ext.refl _).alloc _⟩
  · by_cases k2 : 524288 < c
    · have hr : Hid (chkb D c = 2) := by unfold chkb; exact if_pos (Or.inr k2)
      go_enter Try.func73, Try.ntmps73
      go_wp2_with fail
      go_ret
      exact ⟨ret_int hr.out.symm, (Ext.refl _).alloc _⟩
    · have k3 : 0 ≤ c := by omega
      have k4 : c ≤ 524288 := by omega
      have k5 : (c + 7) / 8 ≤ 70000 := by omega
      have k6 : 0 ≤ (c + 7) / 8 := by omega
      by_cases k7 : (D.length : Int) = (c + 7) / 8
      · have k8 : ((D.length : Int) != (c + 7) / 8) = false := by simp [k7]
        have k9 : ((D.length : Int) == (c + 7) / 8) = true := by simp [k7]
        have K7 := hidden k7
        clear k7
        by_cases k10 : c % 8 = 0
        · have hr : Hid (chkb D c = 0) := by
            unfold chkb
            rw [if_neg (by omega), if_neg (by have := K7.out; omega), if_neg (fun e => e.1 k10)]
            trivial
          have k11 : (c % 8 != 0) = false := by simp [k10]
          have k12 : decide (c % 8 = 0) = true := by simp [k10]
          clear k10
          go_enter Try.func73, Try.ntmps73
          go_wp2_with fail
          go_quiet (fail)
          go_wp2_with fail
          go_ret
          exact ⟨ret_int hr.out.symm, ((Ext.refl _).alloc _).drewN _⟩
        · have hpos : 0 < D.length := by have := K7.out; omega
          obtain ⟨b, off, rfl, -⟩ := Rd8.some h hpos
          have hx := getD_bd8 hb (D.length - 1)
          have hcx := Rd8.at h (D.length - 1) (by omega)
          obtain ⟨x, hx'⟩ : ∃ x, D.getD (D.length - 1) 0 = x := ⟨_, rfl⟩
          have hr : Hid (chkb D c = if x * 2 ^ (c % 8).toNat % 256 ≠ 0 then 3 else 0) := by
            unfold chkb
            rw [if_neg (by omega), if_neg (by have := K7.out; omega), hx']
            simp only [ne_eq, k10, not_false_eq_true, true_and]
            trivial
          rw [hx'] at hx hcx
          clear hx'
          obtain ⟨hx0, hx1⟩ := hx
          have hcx' := (Ext.alloc (Ext.refl w) (.cells #[.slice (some ⟨b, off, none⟩) D.length cap, .int .i64 c] 91)).cell hcx
          have k11 : (c % 8 != 0) = true := by simp [k10]
          have k13 : 0 ≤ c % 8 := by omega
          have k14 : c % 8 < 8 := by omega
          have k15 : (0 : Int) ≤ (D.length : Int) - 1 := by omega
          have k16 : (D.length : Int) - 1 < (D.length : Int) := by omega
          have k17 : ((D.length : Int) - 1).toNat = D.length - 1 := by omega
          clear k10 h hcx
          go_enter Try.func73, Try.ntmps73
          go_wp2_with fail
          go_quiet (fail)
          go_wp2_with fail
          · have hz : (x * 2 ^ (c % 8).toNat % 256 != 0) = true := by assumption
            go_ret
            exact ⟨ret_int (by rw [hr.out, if_pos (by simpa using hz)]), ((Ext.refl _).alloc _).drewN _⟩
          · have hz : (x * 2 ^ (c % 8).toNat % 256 != 0) = false := by assumption
            go_ret
            exact ⟨ret_int (by rw [hr.out, if_neg (by simpa using hz)]), ((Ext.refl _).alloc _).drewN _⟩
      · have k8 : ((D.length : Int) != (c + 7) / 8) = true := by simp [k7]
        have k9 : ((D.length : Int) == (c + 7) / 8) = false := by simp [k7]
        have hr : Hid (chkb D c = 3) := by
          unfold chkb
          rw [if_neg (by omega), if_pos k7]
          trivial
        clear k7
        go_enter Try.func73, Try.ntmps73
        go_wp2_with fail
        go_ret
        exact ⟨ret_int hr.out.symm, (Ext.refl _).alloc _⟩

/-- A bit is read. -/
theorem one_any (p : Nat) (v c : Value) (D : List Int) (k : Int) (hb : Bytes D) (hk : 0 ≤ k) (hk2 : k ≤ 600000) (hin : k / 8 < D.length) (w : World) (hB : Blk w p 113 [v, c]) (h : Rd8 w v D) :
    Calls Try.prog 77 #[.pointer (some ⟨p, 0, none⟩), .int .i64 k] w fun e w' => e = .returned (.bool (decide (gb D k.toNat = 1))) ∧ Ext w w' := by
  obtain ⟨a, cap, rfl, h1, h2, h3⟩ := Rd.shape h
  obtain ⟨b, off, rfl, -⟩ := Rd8.some h (by omega)
  have hx := getD_bd8 hb (k / 8).toNat
  have hcx := Rd8.at h (k / 8).toNat (by omega)
  have hg : Hid (gb D k.toNat = bt (D.getD (k / 8).toNat 0) (k % 8).toNat) := by
    refine hidden ?_
    rw [gb_bt, show k.toNat / 8 = (k / 8).toNat by omega, show k.toNat % 8 = (k % 8).toNat by omega]
  obtain ⟨x, hx'⟩ : ∃ x, D.getD (k / 8).toNat 0 = x := ⟨_, rfl⟩
  rw [hx'] at hx hcx hg
  clear hx' h
  obtain ⟨hx0, hx1⟩ := hx
  have c0 := hB.cell 0 _ rfl
  have h8 : 0 ≤ k / 8 := by omega
  have h9 : k / 8 ≤ 75000 := by omega
  have h10 : 0 ≤ k % 8 := by omega
  have h11 : k % 8 < 8 := by omega
  have hfin := hidden (and_byte x (k % 8).toNat hx0 hx1 (by omega))
  go_enter Try.func77, Try.ntmps77
  go_wp2_with fail
  go_quiet (fail)
  go_wp2_with fail
  go_ret
  exact ⟨ret_bool (by rw [hfin.out, hg.out]), (Ext.refl _).drewN _⟩
end Go.Proofs.Ytjfdmhdmadnkoaa

/- The program's push. -/
namespace Go.Proofs.Ytjfdmhdmadnkoaa
open Go.RowKit
set_option linter.unusedVariables false
attribute [local go_sem ↓] Go.wp_at_zero Go.wp_at_succ

def b2i (x : Bool) : Int := if x then 1 else 0
theorem b2i_01 (x : Bool) : b2i x = 0 ∨ b2i x = 1 := by cases x <;> simp [b2i]

/-- What a tape holds. -/
structure Tape (w : World) (p B : Nat) (v : Value) (D : List Int) (c : Nat) : Prop where
  blk : Blk w p 113 [v, .int .i64 (c : Int)]
  own : Own8 w B v D
  wf : WF D c
theorem Tape.ne {w : World} {p B : Nat} {v : Value} {D : List Int} {c : Nat} (h : Tape w p B v D c) : v.ownBlock ≠ some p := own_ne_blk h.own h.blk (by decide)

/-- A row that grows: it lies where it lay, or in a new block. -/
def Stays (w : World) (v v' : Value) : Prop := ∀ g, v'.ownBlock = some g → v.ownBlock = some g ∨ w.heap.size ≤ g
theorem Stays.refl (w : World) (v : Value) : Stays w v v := fun g h => Or.inl h
theorem Stays.trans {w w1 : World} {v v1 v2 : Value} (h : Stays w v v1) (k : Stays w1 v1 v2) (hs : w.heap.size ≤ w1.heap.size) : Stays w v v2 := fun g hg => by
  rcases k g hg with h1 | h1
  · exact h g h1
  · exact Or.inr (by omega)
theorem Stays.chg {w w1 w2 : World} {p : Nat} {v v1 : Value} (h : Stays w v v1) (k : Chg (p :: v.ownBlock.toList) w w1) (k2 : Chg (p :: v1.ownBlock.toList) w1 w2) : Chg (p :: v.ownBlock.toList) w w2 :=
  k.trans k2 (fun x hx => by
    simp only [List.mem_cons, Option.mem_toList] at hx ⊢
    rcases hx with h1 | h1
    · exact Or.inl (Or.inl h1)
    · rcases h x h1 with h2 | h2
      · exact Or.inl (Or.inr h2)
      · exact Or.inr h2)
def PushPost (p B c : Nat) (v : Value) (D : List Int) (x : Int) (w : World) (e : Ending) (w' : World) : Prop :=
  e = .returned (.tuple #[]) ∧ ∃ v', Tape w' p B v' (psh D c x) (c + 1) ∧ Stays w v v' ∧ Chg (p :: v.ownBlock.toList) w w'

end Go.Proofs.Ytjfdmhdmadnkoaa

/- The program's put, and copies. -/
namespace Go.Proofs.Ytjfdmhdmadnkoaa
open Go.RowKit
set_option linter.unusedVariables false
attribute [local go_sem ↓] Go.wp_at_zero Go.wp_at_succ

theorem u32_and1 (y : Int) (h0 : 0 ≤ y) (h1 : y ≤ 4294967295) : bits BinOp.and IntKind.u32 y 1 = y % 2 := by
  rw [u32_and y 1 h0 (by omega) (by decide) (by decide)]
  show ((y.toNat &&& 1 : Nat) : Int) = _
  rw [Nat.and_one_is_mod]
  omega
theorem div_bd (v : Int) (k : Nat) (h0 : 0 ≤ v) (h1 : v ≤ 4294967295) : 0 ≤ v / 2 ^ k ∧ v / 2 ^ k ≤ 4294967295 := by
  have hp := pow2_pos k
  refine ⟨Int.ediv_nonneg h0 (by omega), ?_⟩
  have := Int.ediv_le_self (2 ^ k) h0
  omega
theorem low_take (v : Int) (n k : Nat) (hk : k < n) : (low v n).take (k + 1) = (low v n).take k ++ [v / 2 ^ (n - 1 - k) % 2] := by
  rw [List.take_succ_eq_append_getElem (by rw [low_len]; exact hk)]
  simp [low]

def PutPost (p B c : Nat) (v : Value) (D : List Int) (xs : List Int) (w : World) (e : Ending) (w' : World) : Prop :=
  e = .returned (.tuple #[]) ∧ ∃ v', Tape w' p B v' (pshs D c xs) (c + xs.length) ∧ Stays w v v' ∧ Chg (p :: v.ownBlock.toList) w w'

end Go.Proofs.Ytjfdmhdmadnkoaa

/- The program's Append. -/
namespace Go.Proofs.Ytjfdmhdmadnkoaa
open Go.RowKit
set_option linter.unusedVariables false
attribute [local go_sem ↓] Go.wp_at_zero Go.wp_at_succ

/-- What an operation leaves that returns a bit string and an error. -/
def BitsPost (w : World) (r : Int × List Int × Nat) (x : Ending) (w' : World) : Prop :=
  ∃ a k, x = .returned (.tuple #[.agg #[.slice a r.2.1.length k, .int .i64 (r.2.2 : Int)], .int .i64 r.1]) ∧ Rd8 w' (.slice a r.2.1.length k) r.2.1 ∧ Fresh w (.slice a r.2.1.length k) ∧ Ext w w'

/-- What Append leaves. -/
def appF (D : List Int) (c : Int) (y n : Int) : Int × List Int × Nat :=
  if chkb D c ≠ 0 then (chkb D c, [], 0) else if n < 0 ∨ 32 < n then (2, [], 0) else if 2 ^ n.toNat ≤ y then (1, [], 0)
  else if 524288 < c + n then (5, [], 0) else (0, pshs D c.toNat (low y n.toNat), c.toNat + n.toNat)
theorem bitLen_le_iff (y n : Nat) (hy : y < 4294967296) : Lib.bitLen y ≤ n ↔ y < 2 ^ n := by
  by_cases h0 : y = 0
  · subst h0
    have e : Lib.bitLen 0 = 0 := by decide
    rw [e]
    simp [Nat.pow_pos]
  · obtain ⟨b1, b2, b3⟩ : 1 ≤ Lib.bitLen y ∧ 2 ^ (Lib.bitLen y - 1) ≤ y ∧ y < 2 ^ Lib.bitLen y := Lib.bitLenAux_bounds 64 y (by omega) (by omega)
    constructor
    · intro h
      exact Nat.lt_of_lt_of_le b3 (Nat.pow_le_pow_right (by decide) h)
    · intro h
      rcases Nat.lt_or_ge n (Lib.bitLen y) with hl | hl
      · exfalso
        have : 2 ^ n ≤ 2 ^ (Lib.bitLen y - 1) := Nat.pow_le_pow_right (by decide) (by omega)
        omega
      · exact hl
theorem bitLen_cmp (y n : Int) (hy0 : 0 ≤ y) (hy1 : y ≤ 4294967295) (hn : 0 ≤ n) : ((Lib.bitLen y.toNat : Int) ≤ n) ↔ y < 2 ^ n.toNat := by
  have h := bitLen_le_iff y.toNat n.toNat (by omega)
  have e : ((2 ^ n.toNat : Nat) : Int) = (2 : Int) ^ n.toNat := by simp
  rw [← e]
  omega

end Go.Proofs.Ytjfdmhdmadnkoaa

/- The program's Gamma. -/
namespace Go.Proofs.Ytjfdmhdmadnkoaa
open Go.RowKit
set_option linter.unusedVariables false
attribute [local go_sem ↓] Go.wp_at_zero Go.wp_at_succ

/-- The bits of a gamma code. -/
def gam (n : Int) : List Int := low 0 (Lib.bitLen n.toNat - 1) ++ low n (Lib.bitLen n.toNat)
/-- What Gamma leaves. -/
def gamF (D : List Int) (c n : Int) : Int × List Int × Nat :=
  if chkb D c ≠ 0 then (chkb D c, [], 0) else if n < 1 ∨ 2147483647 < n then (2, [], 0)
  else if 524288 < c + 2 * (Lib.bitLen n.toNat : Int) - 1 then (5, [], 0) else (0, pshs D c.toNat (gam n), c.toNat + (2 * Lib.bitLen n.toNat - 1))
theorem len_ex (n : Int) (h0 : 1 ≤ n) (h1 : n ≤ 2147483647) : ∃ m, Lib.bitLen n.toNat = m + 1 ∧ m ≤ 30 := by
  obtain ⟨b1, b2, b3⟩ : 1 ≤ Lib.bitLen n.toNat ∧ 2 ^ (Lib.bitLen n.toNat - 1) ≤ n.toNat ∧ n.toNat < 2 ^ Lib.bitLen n.toNat := Lib.bitLenAux_bounds 64 n.toNat (by omega) (by omega)
  refine ⟨Lib.bitLen n.toNat - 1, by omega, ?_⟩
  rcases Nat.lt_or_ge 30 (Lib.bitLen n.toNat - 1) with h | h
  · exfalso
    have : 2 ^ 31 ≤ 2 ^ (Lib.bitLen n.toNat - 1) := Nat.pow_le_pow_right (by decide) (by omega)
    omega
  · exact h
theorem gam_len (n : Int) (m : Nat) (h : Lib.bitLen n.toNat = m + 1) : (gam n).length = 2 * m + 1 := by
  unfold gam
  rw [h, List.length_append, low_len, low_len]
  omega
theorem gam_01 (n : Int) : Bits01 (gam n) := by
  intro x hx
  rcases List.mem_append.1 hx with h | h
  · exact low_01 _ _ x h
  · exact low_01 _ _ x h

end Go.Proofs.Ytjfdmhdmadnkoaa
