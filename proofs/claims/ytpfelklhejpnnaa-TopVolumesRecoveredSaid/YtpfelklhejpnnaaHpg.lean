/- Every choice of data rows is inverted: computed. -/
import Derived.Test.YtpfelklhejpnnaaHpa
namespace Go.Proofs.Ytpfelklhejpnnaa
set_option linter.unusedVariables false

theorem ok_64b : (((choose 6 (List.range 10)).drop 42).take 42).all (okB 6 4) = true := by decide +kernel
theorem ok_64c : ((((choose 6 (List.range 10)).drop 42).drop 42).take 42).all (okB 6 4) = true := by decide +kernel
end Go.Proofs.Ytpfelklhejpnnaa
