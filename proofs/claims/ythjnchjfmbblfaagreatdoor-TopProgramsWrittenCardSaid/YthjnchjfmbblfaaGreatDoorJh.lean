/- number and further of package wire. -/
import Derived.Test.YthjnchjfmbblfaaGreatDoorRows
import Derived.Test.YthjnchjfmbblfaaGreatDoorJg
import Derived.Test.YthjnchjfmbblfaaGreatDoorShelf
import Derived.Test.YthjnchjfmbblfaaGreatDoorMz
namespace Go.Proofs.YthjnchjfmbblfaaGreatDoor
open Go.RowKit
set_option linter.unusedVariables false
theorem wnumber_any (n : Int) (w : World) : Calls Tryz.prog 69 #[.int .i64 n] w fun x w' => x = .returned (.int .i64 (wnum n)) ∧ w = w' := by
  by_cases k1 : n < 0
  · rw [show wnum n = 0 by unfold wnum; exact if_pos (Or.inl k1)]
    go_enter Tryz.func69, Tryz.ntmps69
    go_wp2_with fail
    go_ret
    exact ⟨rfl, rfl⟩
  · by_cases k2 : 9007199254740991 < n
    · rw [show wnum n = 0 by unfold wnum; exact if_pos (Or.inr k2)]
      go_enter Tryz.func69, Tryz.ntmps69
      go_wp2_with fail
      go_ret
      exact ⟨rfl, rfl⟩
    · rw [show wnum n = n by unfold wnum; exact if_neg (by omega)]
      go_enter Tryz.func69, Tryz.ntmps69
      go_wp2_with fail
      go_ret
      exact ⟨rfl, rfl⟩
theorem wfurther_any (n : Int) (h0 : 0 ≤ n) (h1 : n ≤ 9223372036854775807) (w : World) : Calls Tryz.prog 66 #[.int .i64 n] w fun x w' => x = .returned (.int .i64 (fur n : Int)) ∧ w = w' := by
  have hf : fur n = (Lib.bitLen n.toNat - 1) / 7 := rfl
  have hb : Lib.bitLen n.toNat ≤ 64 := (bl_iff n.toNat 64 (by omega)).2 (by omega)
  have hlen := Tryz.bits_Len n
  obtain ⟨L, hL⟩ : ∃ L, Lib.bitLen n.toNat = L := ⟨_, rfl⟩
  rw [hL] at hf hb
  simp only [hL] at hlen
  replace hlen := hidden hlen
  replace hf := hidden hf
  clear hL
  go_enter Tryz.func66, Tryz.ntmps66
  go_wp2_with fail
  refine (hlen.out _ h0 (by omega)).mono ?_
  rintro e w1 ⟨rfl, rfl⟩
  go_wp2_with fail
  all_goals
    go_ret
    exact ⟨ret_int (by rw [hf.out]; omega), rfl⟩
end Go.Proofs.YthjnchjfmbblfaaGreatDoor
