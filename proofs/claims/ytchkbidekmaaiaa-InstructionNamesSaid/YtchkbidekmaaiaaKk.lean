/- Find, InstructionNames. -/
import Derived.Test.YtchkbidekmaaiaaJw
import Derived.Outline
namespace Go.Proofs.Ytchkbidekmaaiaa
open Go.RowKit
set_option linter.unusedVariables false
attribute [local go_sem ↓] Go.wp_at_zero Go.wp_at_succ

/-- The first operation with a name, from one on: n operations are looked at. -/
def fnd (s : ByteArray) : Nat → Nat → Option Nat
  | _, 0 => none
  | k, n + 1 => if (opAt (k : Int)).1.toList = s.toList then some k else fnd s (k + 1) n
def fndV (s : ByteArray) : Int × Bool := match fnd s 0 36 with
  | some k => ((k : Int), true)
  | none => (0, false)
theorem isop_lt (k : Nat) (h : k < 36) : isOp (k : Int) = true := decide_eq_true (by omega)

theorem fnd_hit (s : ByteArray) (k n : Nat) (h : (opAt (k : Int)).1.toList = s.toList) : fnd s k (n + 1) = some k := if_pos h
theorem fnd_miss (s : ByteArray) (k n : Nat) (h : ¬ (opAt (k : Int)).1.toList = s.toList) : fnd s k (n + 1) = fnd s (k + 1) n := if_neg h
theorem fnd_snoc (s : ByteArray) (n : Nat) : ∀ k, (fnd s k (n + 1)).isSome = ((fnd s k n).isSome || (opAt ((k + n : Nat) : Int)).1.toList == s.toList) := by
  induction n with
  | zero =>
    intro k
    by_cases h : (opAt (k : Int)).1.toList = s.toList
    · rw [fnd_hit s k 0 h]; simp [fnd, h]
    · rw [fnd_miss s k 0 h]; simp [fnd, h]
  | succ n ih =>
    intro k
    by_cases h : (opAt (k : Int)).1.toList = s.toList
    · rw [fnd_hit s k _ h, fnd_hit s k _ h]; rfl
    · rw [fnd_miss s k _ h, fnd_miss s k n h, ih (k + 1), show k + 1 + n = k + (n + 1) by omega]
theorem fnd_tab : (List.range 36).all (fun k => fnd (opAt (k : Int)).1 0 36 == some k && !(opAt (k : Int)).1.toList.isEmpty) = true := by decide +kernel

set_option maxHeartbeats 4000000 in
set_option maxRecDepth 100000 in
theorem find_any (s : ByteArray) (w : World) : Calls Try.prog 27 #[.string s] w fun x w' => x = .returned (.tuple #[.int .i64 (fndV s).1, .bool (fndV s).2]) ∧ Ext w w' := by
  have hop := operations_any
  replace hop := hidden hop
  have hix := index_ops
  replace hix := hidden hix
  go_enter Try.func27, Try.ntmps27
  go_wp2_with fail
  refine (hop.out _).mono ?_
  rintro e w1 ⟨rfl, g1⟩
  go_wp2_with fail
  go_loopw [7] (fun i wr => ∃ k : Nat, k ≤ 36 ∧ i = .int .i64 (k : Int) ∧ Hid (fnd s 0 36 = fnd s k (36 - k)) ∧ Ext w wr) (fun i _ => 36 - (intOf i).toNat)
  case atStart => exact ⟨0, by omega, rfl, rfl, g1⟩
  case round =>
    clear g1
    obtain ⟨k, hk, rfl, hf, X⟩ := hrel
    by_cases hlt : k < 36
    · have hixk := hix.out (k : Int) (by omega) (by omega)
      have hhit := fnd_hit s k (36 - k - 1)
      have hmiss := fnd_miss s k (36 - k - 1)
      rw [show 36 - k - 1 + 1 = 36 - k by omega] at hhit hmiss
      obtain ⟨TT, hTT⟩ : ∃ T, opAt (k : Int) = T := ⟨_, rfl⟩
      rw [hTT] at hhit hmiss
      simp only [hTT] at hixk
      obtain ⟨t0, t1, t2, t3, t4⟩ := TT
      simp only at hhit hmiss hixk
      replace hhit := hidden hhit
      replace hmiss := hidden hmiss
      replace hTT := hidden hTT
      by_cases he : t0.toList = s.toList
      · have he1 : (t0.toList == s.toList) = true := by simp [he]
        have hV : Hid (fndV s = ((k : Int), true)) := by show _ = _; unfold fndV; rw [hf.out, hhit.out he]
        clear he
        go_wp2_with fail
        go_ret2
        exact ⟨by rw [hV.out]; rfl, X.alloc _⟩
      · have he1 : (t0.toList == s.toList) = false := by simp [he]
        have hm2 := hidden (hmiss.out he)
        clear he
        go_wp2_with fail
        go_roundw
        case rel => exact ⟨k + 1, by omega, by go_num, by show _ = _; rw [hf.out, hm2.out, show 36 - k - 1 = 36 - (k + 1) by omega], X.alloc _⟩
        case measure => simp [intOf]; omega
    · obtain rfl : k = 36 := by omega
      have hV : Hid (fndV s = (0, false)) := by show _ = _; unfold fndV; rw [hf.out]; rfl
      go_wp2_with fail
      go_ret2
      exact ⟨by rw [hV.out]; rfl, X⟩

set_option maxHeartbeats 4000000 in
set_option maxRecDepth 100000 in
theorem InstructionNames_law (nm : ByteArray) (w : World) :
    Calls Try.prog 10 #[.string nm] w fun x w' => x = .returned (.bool true) ∧ Ext w w' := by
  have hnames := iname_any
  have hfind := find_any
  have haw := awake_any
  have hm1 := fun w => iname_any (-1) w
  have hm2 := fun w => iname_any 36 w
  rw [show (opAt (-1)).1 = ⟨#[]⟩ by rfl] at hm1
  rw [show (opAt 36).1 = ⟨#[]⟩ by rfl] at hm2
  replace hnames := hidden hnames
  replace hfind := hidden hfind
  replace haw := hidden haw
  replace hm1 := hidden hm1
  replace hm2 := hidden hm2
  go_enter Try.func10, Try.ntmps10
  go_wp2_with fail
  go_loopw [3, 4] (fun b i wr => ∃ (k : Nat) (K : Bool), k ≤ 36 ∧ i = .int .i64 (k : Int) ∧ b = .bool K ∧ Hid (K = (fnd nm 0 k).isSome) ∧ Ext w wr) (fun _ i _ => 36 - (intOf i).toNat)
  case atStart => exact ⟨0, false, by omega, rfl, rfl, rfl, Ext.refl _⟩
  case round =>
    obtain ⟨k, K, hk, rfl, rfl, hK, X⟩ := hrel
    by_cases hlt : k < 36
    · have htab := List.all_eq_true.1 fnd_tab k (by simp; omega)
      have hsn := fnd_snoc nm k 0
      rw [Nat.zero_add, ← hK.out] at hsn
      have hcn := hnames.out (k : Int)
      obtain ⟨t, ht⟩ : ∃ t, (opAt (k : Int)).1 = t := ⟨_, rfl⟩
      rw [ht] at htab hsn hcn
      simp only [Bool.and_eq_true, beq_iff_eq, Bool.not_eq_true'] at htab
      obtain ⟨hf, hemp⟩ := htab
      have hcf := hfind.out t
      rw [show fndV t = ((k : Int), true) by unfold fndV; rw [hf]] at hcf
      have hemp2 : (t.toList == []) = false := by cases h : t.toList with | nil => rw [h] at hemp; cases hemp | cons a b => rfl
      obtain ⟨q, hq⟩ : ∃ q, (t.toList == nm.toList) = q := ⟨_, rfl⟩
      rw [hq] at hsn
      have hsn2 := hidden hsn
      replace hcn := hidden hcn
      replace hcf := hidden hcf
      clear hf ht hsn
      go_wp2_with fail
      refine (hcn.out _).mono ?_
      rintro e w1 ⟨rfl, g1⟩
      go_wp2_with fail
      refine (hcf.out _).mono ?_
      rintro e w2 ⟨rfl, g2⟩
      cases K with
      | true =>
        go_wp2_with fail
        go_roundw
        case rel => exact ⟨k + 1, true, by omega, by go_num, rfl, by show _ = _; rw [hsn2.out]; rfl, (X.trans g1).trans g2⟩
        case measure => simp [intOf]; omega
      | false =>
        go_wp2_with fail
        go_roundw
        case rel => exact ⟨k + 1, q, by omega, by go_num, rfl, by show _ = _; rw [hsn2.out]; rfl, (X.trans g1).trans g2⟩
        case measure => simp [intOf]; omega
    · obtain rfl : k = 36 := by omega
      have hcf := hfind.out nm
      have hV : fndV nm = (match fnd nm 0 36 with | some k => ((k : Int), true) | none => (0, false)) := rfl
      cases hc : fnd nm 0 36 with
      | none =>
        rw [hc] at hV
        have hK2 : K = false := by rw [hK.out, hc]; rfl
        subst hK2
        rw [hV] at hcf
        replace hcf := hidden hcf
        clear hV hc
        go_wp2_with fail
        refine (hcf.out _).mono ?_
        rintro e w1 ⟨rfl, g1⟩
        go_wp2_with fail
        refine (hm1.out _).mono ?_
        rintro e w2 ⟨rfl, g2⟩
        go_wp2_with fail
        refine (hm2.out _).mono ?_
        rintro e w3 ⟨rfl, g3⟩
        go_wp2_with fail
        refine (haw.out _).mono ?_
        rintro e w4 ⟨rfl, g4⟩
        go_wp2_with fail
        go_ret
        exact ⟨rfl, (((X.trans g1).trans g2).trans g3).trans g4⟩
      | some j =>
        rw [hc] at hV
        have hK2 : K = true := by rw [hK.out, hc]; rfl
        subst hK2
        rw [hV] at hcf
        replace hcf := hidden hcf
        clear hV hc
        go_wp2_with fail
        refine (hcf.out _).mono ?_
        rintro e w1 ⟨rfl, g1⟩
        go_wp2_with fail
        refine (hm1.out _).mono ?_
        rintro e w2 ⟨rfl, g2⟩
        go_wp2_with fail
        refine (hm2.out _).mono ?_
        rintro e w3 ⟨rfl, g3⟩
        go_wp2_with fail
        refine (haw.out _).mono ?_
        rintro e w4 ⟨rfl, g4⟩
        go_wp2_with fail
        go_ret
        exact ⟨rfl, (((X.trans g1).trans g2).trans g3).trans g4⟩
end Go.Proofs.Ytchkbidekmaaiaa
