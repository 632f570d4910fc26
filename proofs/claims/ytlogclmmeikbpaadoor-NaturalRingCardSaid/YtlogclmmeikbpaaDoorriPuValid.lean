/- What Of, Valid, Cmp and the laws' guards answer, as plain laws over the printed functions; the law NaturalValid. No condition. -/
import Derived.Test.YtlogclmmeikbpaaDoorriPuParse
import Derived.Test.YtlogclmmeikbpaaDoorriPx0
import Derived.Test.YtlogclmmeikbpaaDoorriGiven
import Derived.Test.YtlogclmmeikbpaaDoorriPx2
import Derived.Test.YtlogclmmeikbpaaDoorriPx5
import Derived.Test.YtlogclmmeikbpaaDoorriPx7
import Derived.Test.YtlogclmmeikbpaaDoorriPx10
namespace Go.Proofs.YtlogclmmeikbpaaDoor.Pu
open Go.RowKit Go.Proofs.YtlogclmmeikbpaaDoorW.PrintWords Go.Proofs.YtlogclmmeikbpaaDoor.Given Go.Proofs.YtlogclmmeikbpaaDoor.P
set_option linter.unusedVariables false

theorem tdiv_ (n : Nat) (m : Nat) : Int.tdiv (n : Int) (m : Int) = ((n / m : Nat) : Int) := by
  rw [Int.tdiv_eq_ediv_of_nonneg (by omega)]
  exact (Int.natCast_ediv n m).symm
theorem tmod_ (n : Nat) (m : Nat) : Int.tmod (n : Int) (m : Int) = ((n % m : Nat) : Int) := by
  rw [Int.tmod_eq_emod_of_nonneg (by omega)]
  exact (Int.natCast_emod n m).symm
theorem nCmp_ev (a b : List Int) (h : a.length ≤ 1000000000000) : Ev (fun k => natural_Cmp.f k a b) (cmpL a b) := by
  simp only [natural_Cmp.f]
  exact Ev.bind (compare_ev a b h) (Ev.pure _)
end Go.Proofs.YtlogclmmeikbpaaDoor.Pu

