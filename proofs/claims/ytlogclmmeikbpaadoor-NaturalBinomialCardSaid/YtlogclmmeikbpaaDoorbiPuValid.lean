/- What Of, Valid, Cmp and the laws' guards answer, as plain laws over the printed functions; the law NaturalValid. No condition. -/
import Derived.Test.YtlogclmmeikbpaaDoorbiPuParse
import Derived.Test.YtlogclmmeikbpaaDoorbiPx0
import Derived.Test.YtlogclmmeikbpaaDoorbiGiven
import Derived.Test.YtlogclmmeikbpaaDoorbiPx2
import Derived.Test.YtlogclmmeikbpaaDoorbiPx5
import Derived.Test.YtlogclmmeikbpaaDoorbiPx7
import Derived.Test.YtlogclmmeikbpaaDoorbiFmt
import Derived.Test.YtlogclmmeikbpaaDoorbiPx6
namespace Go.Proofs.YtlogclmmeikbpaaDoor.Pu
open Go.RowKit Go.Proofs.YtlogclmmeikbpaaDoorW.PrintWords Go.Proofs.YtlogclmmeikbpaaDoor.Given Go.Proofs.YtlogclmmeikbpaaDoor.P
set_option linter.unusedVariables false

theorem tdiv_ (n : Nat) (m : Nat) : Int.tdiv (n : Int) (m : Int) = ((n / m : Nat) : Int) := by
  rw [Int.tdiv_eq_ediv_of_nonneg (by omega)]
  exact (Int.natCast_ediv n m).symm
theorem tmod_ (n : Nat) (m : Nat) : Int.tmod (n : Int) (m : Int) = ((n % m : Nat) : Int) := by
  rw [Int.tmod_eq_emod_of_nonneg (by omega)]
  exact (Int.natCast_emod n m).symm
end Go.Proofs.YtlogclmmeikbpaaDoor.Pu

