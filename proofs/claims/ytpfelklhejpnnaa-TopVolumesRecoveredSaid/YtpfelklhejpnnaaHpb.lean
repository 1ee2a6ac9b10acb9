/- Every choice of data rows is inverted: computed. -/
import Derived.Test.YtpfelklhejpnnaaHpa
namespace Go.Proofs.Ytpfelklhejpnnaa
set_option linter.unusedVariables false

theorem ok_1 : ((List.range 5).all fun r => (choose 1 (List.range (1 + r))).all (okB 1 r)) = true := by decide +kernel
theorem ok_2 : ((List.range 5).all fun r => (choose 2 (List.range (2 + r))).all (okB 2 r)) = true := by decide +kernel
theorem ok_3 : ((List.range 5).all fun r => (choose 3 (List.range (3 + r))).all (okB 3 r)) = true := by decide +kernel
theorem ok_4 : ((List.range 5).all fun r => (choose 4 (List.range (4 + r))).all (okB 4 r)) = true := by decide +kernel
theorem ok_50 : (choose 5 (List.range 5)).all (okB 5 0) = true := by decide +kernel
theorem ok_51 : (choose 5 (List.range 6)).all (okB 5 1) = true := by decide +kernel
theorem ok_52 : (choose 5 (List.range 7)).all (okB 5 2) = true := by decide +kernel
theorem ok_53 : (choose 5 (List.range 8)).all (okB 5 3) = true := by decide +kernel
end Go.Proofs.Ytpfelklhejpnnaa
