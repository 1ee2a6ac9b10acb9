/- Every choice of data rows is inverted: computed. -/
import Derived.Test.YtpfelklhejpnnaaHpa
namespace Go.Proofs.Ytpfelklhejpnnaa
set_option linter.unusedVariables false

theorem ok_63a : ((choose 6 (List.range 9)).take 42).all (okB 6 3) = true := by decide +kernel
theorem ok_63b : ((choose 6 (List.range 9)).drop 42).all (okB 6 3) = true := by decide +kernel
theorem ok_64a : ((choose 6 (List.range 10)).take 42).all (okB 6 4) = true := by decide +kernel
end Go.Proofs.Ytpfelklhejpnnaa
