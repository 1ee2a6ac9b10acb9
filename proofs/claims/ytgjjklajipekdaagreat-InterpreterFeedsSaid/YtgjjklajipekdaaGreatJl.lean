
import Derived.Test.YtgjjklajipekdaaGreatJg
import Derived.Test.YtgjjklajipekdaaGreatB8c
namespace Go.Proofs.YtgjjklajipekdaaGreat
open Go.RowKit
set_option linter.unusedVariables false
def ones (x : Int) : Nat := if x < 128 then 0 else if x < 192 then 1 else if x < 224 then 2 else if x < 240 then 3 else if x < 248 then 4 else if x < 252 then 5 else if x < 254 then 6 else if x < 255 then 7 else 8
def first (x : Int) (k : Nat) : Int := x % 2 ^ (7 - k)
end Go.Proofs.YtgjjklajipekdaaGreat
