/- What the reference's Format answers, and that Parse leads back from a number's text; the law NaturalText. No condition. -/
import Derived.Test.YtlogclmmeikbpaaDoorsuPuValid
import Derived.Test.YtlogclmmeikbpaaDoorsuPx0
import Derived.Test.YtlogclmmeikbpaaDoorsuFmt
import Derived.Test.YtlogclmmeikbpaaDoorsuPx2
import Derived.Test.YtlogclmmeikbpaaDoorsuPx5
import Derived.Test.YtlogclmmeikbpaaDoorsuPx7
namespace Go.Proofs.YtlogclmmeikbpaaDoor.Pu
open Go.RowKit Go.Proofs.YtlogclmmeikbpaaDoorW.PrintWords Go.Proofs.YtlogclmmeikbpaaDoor.Given Go.Proofs.YtlogclmmeikbpaaDoor.P
set_option linter.unusedVariables false

theorem copied_ev (l : List Int) (h : l.length ≤ 1000000000000) : ancepslaw02_copied.f l = some l := by
  unfold ancepslaw02_copied.f slices_Clone_int_int.f
  rw [if_pos (by omega)]
  rfl
end Go.Proofs.YtlogclmmeikbpaaDoor.Pu

