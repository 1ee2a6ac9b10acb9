/- Layer 18, the reference: the innermost loop of open blocks. -/
import Derived.Test.YtcnbljohhajkhaaWn
namespace Go.Proofs.Ytcnbljohhajkhaa
open Go.RowKit
set_option linter.unusedVariables false
set_option linter.unusedSimpArgs false
attribute [local go_sem ↓] Go.wp_at_zero Go.wp_at_succ

set_option maxHeartbeats 1000000 in
set_option maxRecDepth 100000 in
theorem inner_any (v vo : Value) (C : List (Int × Int)) (l : List Int) (w : World) (h : Code18 w v C) (ho : RdI w vo l) (hl : ∀ x ∈ l, 0 ≤ x ∧ x < C.length) :
    Calls Try.prog 36 #[v, vo] w fun x w' => ∃ y : Int, x = .returned (.int .i64 y) ∧ (y < 0 ↔ ∀ a ∈ l, opAt C a.toNat ≠ 29) ∧ w' = w := by
  obtain ⟨n, hn⟩ : ∃ n, C.length = n := ⟨_, rfl⟩
  obtain ⟨m, hm⟩ : ∃ m, l.length = m := ⟨_, rfl⟩
  obtain ⟨a, cap, rfl, hcap, hcap2, -⟩ := Rd.shape h
  obtain ⟨a', cap', rfl, hcap', hcap3, -⟩ := Rd.shape ho
  have hR := hidden h
  have hO := hidden ho
  rw [hn] at hR hcap hl ⊢
  rw [hm] at hO hcap' ⊢
  replace hn := hidden hn
  replace hm := hidden hm
  replace hl := hidden hl
  clear h ho
  have hmw : IntKind.i64.wrap ((m : Int) - 1) = (m : Int) - 1 := IntWalk.i64_in _ (by omega)
  go_enter Try.func36, Try.ntmps36
  go_wp2_with fail
  go_loopw [5] (fun ix wr => ∃ (k : Nat), k ≤ m ∧ ix = .int .i64 ((k : Int) - 1) ∧ Hid (∀ a ∈ l.drop k, opAt C a.toNat ≠ 29) ∧ wr = w) (fun ix _ => (intOf ix + 1).toNat)
  case atStart => exact ⟨m, Nat.le_refl _, rfl, hidden (by rw [List.drop_of_length_le (by rw [hm.out]; exact Nat.le_refl _)]; simp), rfl⟩
  case round =>
    obtain ⟨k, hk, rfl, hD, rfl⟩ := hrel
    cases k with
    | zero =>
      rw [show ((0 : Nat) : Int) - 1 = -1 from rfl]
      go_wp2_with fail
      go_ret
      exact ⟨-1, rfl, ⟨fun _ => by have := hD.out; rwa [List.drop_zero] at this, fun _ => by omega⟩, rfl⟩
    | succ j =>
      rw [show ((j + 1 : Nat) : Int) - 1 = (j : Int) by omega]
      obtain ⟨b1, o1, rfl, -, -⟩ := (show Rd wr 1 (.slice a' m cap') m (l.map (Value.int .i64)) by have := hO.out; unfold RdI at this; rw [hm.out] at this; exact this).cells (by omega)
      have hjl : j < l.length := by rw [hm.out]; omega
      have hx := RdI.at hO.out j hjl
      obtain ⟨x, hxe⟩ : ∃ x, l.getD j 0 = x := ⟨_, rfl⟩
      have hdr : l.drop j = x :: l.drop (j + 1) := by rw [List.drop_eq_getElem_cons hjl, ← hxe]; simp [List.getD, hjl]
      have hxm : x ∈ l := List.mem_of_mem_drop (by rw [hdr]; exact List.mem_cons_self)
      obtain ⟨hx0, hx1⟩ := hl.out x hxm
      rw [hxe] at hx
      obtain ⟨y, rfl⟩ : ∃ y : Nat, x = (y : Int) := ⟨x.toNat, by omega⟩
      obtain ⟨b, off, rfl, -, -⟩ := Rd.cells (cs := C.flatMap icell) (w := wr) (sz := 2) (by have := hR.out; unfold Code18 at this; rw [hn.out] at this; exact this) (show 0 < n by omega)
      obtain ⟨x0, -⟩ := code_at hR.out y (by rw [hn.out]; omega)
      obtain ⟨u, hu⟩ : ∃ u, opAt C y = u := ⟨_, rfl⟩
      rw [hu] at x0
      replace hu := hidden hu
      replace hxe := hidden hxe
      replace hdr := hidden hdr
      replace hxm := hidden hxm
      have hjm : (j : Int) < (m : Int) := by omega
      have hjw : IntKind.i64.wrap ((j : Int) - 1) = (j : Int) - 1 := IntWalk.i64_in _ (by omega)
      by_cases h29 : u = 29
      · subst h29
        go_wp2_with fail
        go_ret
        exact ⟨(y : Int), rfl, ⟨fun h => by omega, fun h => absurd hu.out (h _ hxm.out)⟩, rfl⟩
      · have hq : (u == 29) = false := by simp; exact h29
        go_wp2_with fail
        go_roundw
        case rel => exact ⟨j, by omega, rfl, hidden (by rw [hdr.out]; intro a ha; rcases List.mem_cons.1 ha with rfl | ha; (rw [Int.toNat_natCast, hu.out]; exact h29); exact hD.out a ha), trivial⟩
        case measure => simp [intOf]
end Go.Proofs.Ytcnbljohhajkhaa
