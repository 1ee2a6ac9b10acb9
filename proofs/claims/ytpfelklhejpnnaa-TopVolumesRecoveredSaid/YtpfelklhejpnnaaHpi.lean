/- Every choice of data rows is inverted: computed. -/
import Derived.Test.YtpfelklhejpnnaaHpb
import Derived.Test.YtpfelklhejpnnaaHpe
import Derived.Test.YtpfelklhejpnnaaHpf
import Derived.Test.YtpfelklhejpnnaaHpg
import Derived.Test.YtpfelklhejpnnaaHph
namespace Go.Proofs.Ytpfelklhejpnnaa
set_option linter.unusedVariables false

theorem all_cut {L : List (List Nat)} {p : List Nat → Bool} (n : Nat) (h1 : (L.take n).all p = true) (h2 : (L.drop n).all p = true) : L.all p = true := by
  rw [← List.take_append_drop n L, List.all_append, h1, h2]
  rfl
theorem ok_54 : (choose 5 (List.range 9)).all (okB 5 4) = true := all_cut 63 ok_54a ok_54b
theorem ok_63 : (choose 6 (List.range 9)).all (okB 6 3) = true := all_cut 42 ok_63a ok_63b
theorem ok_64 : (choose 6 (List.range 10)).all (okB 6 4) = true := all_cut 42 ok_64a (all_cut 42 ok_64b (all_cut 42 ok_64c (all_cut 42 ok_64d ok_64e)))
theorem ok_all (d r : Nat) (h1 : 1 ≤ d) (h6 : d ≤ 6) (hr : r ≤ 4) (T : List Nat) (hT : T.Sublist (List.range (d + r))) (hl : T.length = d) : okB d r T = true := by
  have hm : T ∈ choose d (List.range (d + r)) := by
    have := mem_choose hT
    rwa [hl] at this
  have key : ∀ d, ((List.range 5).all fun r => (choose d (List.range (d + r))).all (okB d r)) = true → T ∈ choose d (List.range (d + r)) → okB d r T = true := fun d h hT =>
    List.all_eq_true.1 (List.all_eq_true.1 h r (List.mem_range.2 (by omega))) T hT
  obtain rfl | rfl | rfl | rfl | rfl | rfl : d = 1 ∨ d = 2 ∨ d = 3 ∨ d = 4 ∨ d = 5 ∨ d = 6 := by omega
  · exact key 1 ok_1 hm
  · exact key 2 ok_2 hm
  · exact key 3 ok_3 hm
  · exact key 4 ok_4 hm
  · obtain rfl | rfl | rfl | rfl | rfl : r = 0 ∨ r = 1 ∨ r = 2 ∨ r = 3 ∨ r = 4 := by omega
    · exact List.all_eq_true.1 ok_50 T hm
    · exact List.all_eq_true.1 ok_51 T hm
    · exact List.all_eq_true.1 ok_52 T hm
    · exact List.all_eq_true.1 ok_53 T hm
    · exact List.all_eq_true.1 ok_54 T hm
  · obtain rfl | rfl | rfl | rfl | rfl : r = 0 ∨ r = 1 ∨ r = 2 ∨ r = 3 ∨ r = 4 := by omega
    · exact List.all_eq_true.1 ok_60 T hm
    · exact List.all_eq_true.1 ok_61 T hm
    · exact List.all_eq_true.1 ok_62 T hm
    · exact List.all_eq_true.1 ok_63 T hm
    · exact List.all_eq_true.1 ok_64 T hm
end Go.Proofs.Ytpfelklhejpnnaa
