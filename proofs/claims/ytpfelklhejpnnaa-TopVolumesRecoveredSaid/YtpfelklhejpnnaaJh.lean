/- number and further of package wire. -/
import Derived.Test.YtpfelklhejpnnaaRows
import Derived.Test.YtpfelklhejpnnaaJg
import Derived.Test.YtpfelklhejpnnaaShelf
import Derived.Test.YtpfelklhejpnnaaMz
namespace Go.Proofs.Ytpfelklhejpnnaa
open Go.RowKit
set_option linter.unusedVariables false
theorem wnumber_any (n : Int) (w : World) : Calls Try.prog 60 #[.int .i64 n] w fun x w' => x = .returned (.int .i64 (wnum n)) ∧ w = w' := by
  by_cases k1 : n < 0
  · rw [show wnum n = 0 by unfold wnum; exact if_pos (Or.inl k1)]
    go_enter Try.func60, Try.ntmps60
    go_wp2_with fail
    go_ret
    exact ⟨rfl, rfl⟩
  · by_cases k2 : 9007199254740991 < n
    · rw [show wnum n = 0 by unfold wnum; exact if_pos (Or.inr k2)]
      go_enter Try.func60, Try.ntmps60
      go_wp2_with fail
      go_ret
      exact ⟨rfl, rfl⟩
    · rw [show wnum n = n by unfold wnum; exact if_neg (by omega)]
      go_enter Try.func60, Try.ntmps60
      go_wp2_with fail
      go_ret
      exact ⟨rfl, rfl⟩
theorem wfurther_any (n : Int) (h0 : 0 ≤ n) (h1 : n ≤ 9223372036854775807) (w : World) : Calls Try.prog 61 #[.int .i64 n] w fun x w' => x = .returned (.int .i64 (fur n : Int)) ∧ w = w' := by
  have hf : fur n = (Lib.bitLen n.toNat - 1) / 7 := rfl
  have hb : Lib.bitLen n.toNat ≤ 64 := (bl_iff n.toNat 64 (by omega)).2 (by omega)
  have hlen := Try.bits_Len n
  obtain ⟨L, hL⟩ : ∃ L, Lib.bitLen n.toNat = L := ⟨_, rfl⟩
  rw [hL] at hf hb
  simp only [hL] at hlen
  replace hlen := hidden hlen
  replace hf := hidden hf
  clear hL
  go_enter Try.func61, Try.ntmps61
  go_wp2_with fail
  refine (hlen.out _ h0 (by omega)).mono ?_
  rintro e w1 ⟨rfl, rfl⟩
  go_wp2_with fail
  all_goals
    go_ret
    exact ⟨ret_int (by rw [hf.out]; omega), rfl⟩
end Go.Proofs.Ytpfelklhejpnnaa
