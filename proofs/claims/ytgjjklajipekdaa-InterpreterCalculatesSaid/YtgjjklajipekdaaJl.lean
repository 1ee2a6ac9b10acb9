/- The plain law of reading numbers (layer 2). -/
import Derived.Test.YtgjjklajipekdaaJg
import Derived.Test.YtgjjklajipekdaaB8c
namespace Go.Proofs.Ytgjjklajipekdaa
open Go.RowKit
set_option linter.unusedVariables false
/-- How many one bits a byte begins with. -/
def ones (x : Int) : Nat := if x < 128 then 0 else if x < 192 then 1 else if x < 224 then 2 else if x < 240 then 3 else if x < 248 then 4 else if x < 252 then 5 else if x < 254 then 6 else if x < 255 then 7 else 8
/-- The number that a byte begins. -/
def first (x : Int) (k : Nat) : Int := x % 2 ^ (7 - k)
end Go.Proofs.Ytgjjklajipekdaa
