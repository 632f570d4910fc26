/- What the reference's Format answers, and that Parse leads back from a number's text; the law NaturalText. No condition. -/
import Derived.Test.YtlogclmmeikbpaaDoorriPuValid
import Derived.Test.YtlogclmmeikbpaaDoorriPx0
import Derived.Test.YtlogclmmeikbpaaDoorriFmt
import Derived.Test.YtlogclmmeikbpaaDoorriPx2
import Derived.Test.YtlogclmmeikbpaaDoorriPx5
import Derived.Test.YtlogclmmeikbpaaDoorriPx7
namespace Go.Proofs.YtlogclmmeikbpaaDoor.Pu
open Go.RowKit Go.Proofs.YtlogclmmeikbpaaDoorW.PrintWords Go.Proofs.YtlogclmmeikbpaaDoor.Given Go.Proofs.YtlogclmmeikbpaaDoor.P
set_option linter.unusedVariables false

/-- Four places, written out. -/
def p4 (n : Nat) : List UInt8 := [UInt8.ofNat (48 + n / 1000 % 10), UInt8.ofNat (48 + n / 100 % 10), UInt8.ofNat (48 + n / 10 % 10), UInt8.ofNat (48 + n % 10)]
end Go.Proofs.YtlogclmmeikbpaaDoor.Pu

