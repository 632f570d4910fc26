/- What the two divisions answer, as plain laws over the printed functions. No condition. -/
import Derived.Test.YtlogclmmeikbpaaDoorriPuAdd
import Derived.Test.YtlogclmmeikbpaaDoorriPx4
import Derived.Test.YtlogclmmeikbpaaDoorriPx15
namespace Go.Proofs.YtlogclmmeikbpaaDoor.Pu
open Go.RowKit Go.Proofs.YtlogclmmeikbpaaDoorW.PrintWords Go.Proofs.YtlogclmmeikbpaaDoor.Given Go.Proofs.YtlogclmmeikbpaaDoor.P
set_option linter.unusedVariables false

theorem len_of_lt {m n : Nat} (h : m ≤ n) : (digs m).length ≤ (digs n).length := by
  rcases Nat.lt_or_ge (digs n).length (digs m).length with h2 | h2
  · have := len_mono h2
    omega
  · exact h2
/-- The number at the top of a row, from place i on. -/
def top (a : List Int) (i : Nat) : Nat := (val (a.drop i)).toNat
end Go.Proofs.YtlogclmmeikbpaaDoor.Pu

