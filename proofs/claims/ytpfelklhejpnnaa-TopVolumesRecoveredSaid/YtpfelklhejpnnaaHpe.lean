/- Every choice of data rows is inverted: computed. -/
import Derived.Test.YtpfelklhejpnnaaHpa
namespace Go.Proofs.Ytpfelklhejpnnaa
set_option linter.unusedVariables false

theorem ok_54a : ((choose 5 (List.range 9)).take 63).all (okB 5 4) = true := by decide +kernel
theorem ok_54b : ((choose 5 (List.range 9)).drop 63).all (okB 5 4) = true := by decide +kernel
theorem ok_60 : (choose 6 (List.range 6)).all (okB 6 0) = true := by decide +kernel
theorem ok_61 : (choose 6 (List.range 7)).all (okB 6 1) = true := by decide +kernel
theorem ok_62 : (choose 6 (List.range 8)).all (okB 6 2) = true := by decide +kernel
end Go.Proofs.Ytpfelklhejpnnaa
