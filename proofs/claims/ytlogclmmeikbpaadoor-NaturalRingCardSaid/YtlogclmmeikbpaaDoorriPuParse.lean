/- What the two Parse functions answer, as plain laws over the printed functions. No condition. -/
import Derived.Test.YtlogclmmeikbpaaDoorriPuBase
import Derived.Test.YtlogclmmeikbpaaDoorriPx5
import Derived.Test.YtlogclmmeikbpaaDoorriPx10
namespace Go.Proofs.YtlogclmmeikbpaaDoor.Pu
open Go.RowKit Go.Proofs.YtlogclmmeikbpaaDoorW.PrintWords Go.Proofs.YtlogclmmeikbpaaDoor.Given Go.Proofs.YtlogclmmeikbpaaDoor.P
set_option linter.unusedVariables false

theorem awake_ev : Ev (fun k => ancepslaw02_awake.f k) true := Ev.mono 64 (by kernel_rfl) ancepslaw02_awake.mono
end Go.Proofs.YtlogclmmeikbpaaDoor.Pu

