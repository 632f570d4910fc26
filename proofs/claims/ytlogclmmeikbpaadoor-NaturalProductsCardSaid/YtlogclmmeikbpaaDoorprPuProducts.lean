/- The law NaturalProducts, as a plain law over the printed functions. No condition. -/
import Derived.Test.YtlogclmmeikbpaaDoorprPuMul
import Derived.Test.YtlogclmmeikbpaaDoorprPuText
import Derived.Test.YtlogclmmeikbpaaDoorprPx8
namespace Go.Proofs.YtlogclmmeikbpaaDoor.Pu
open Go.RowKit Go.Proofs.YtlogclmmeikbpaaDoorW.PrintWords Go.Proofs.YtlogclmmeikbpaaDoor.Given Go.Proofs.YtlogclmmeikbpaaDoor.P
set_option linter.unusedVariables false
theorem lawProducts (a b : List Int) (la : a.length ≤ 1000000000000000) (lb : b.length ≤ 1000000000000000) : Ev (fun k => ancepslaw02_NaturalProducts.f k a b) true := by
  simp only [ancepslaw02_NaturalProducts.f]
  refine Ev.bind awake_ev (Ev.yes rfl ?_)
  refine Ev.bind (few2_ev a b la lb) ?_
  by_cases hf : (a.length : Int) + b.length ≤ 420
  · refine Ev.yes (decide_eq_true hf) ?_
    refine Ev.bind (Ev.of_eq (copied_ev a (by omega))) (Ev.bind (Ev.of_eq (copied_ev b (by omega))) ?_)
    refine Ev.bind (Mul_ev a b) (Ev.bind (refMul_ev a b la lb) (Ev.yes rfl ?_))
    have := mulR_len a b
    exact Ev.bind (Same_yes _ (by omega)) (Ev.pure _)
  · exact Ev.no (by simpa using hf) (Ev.bind awake_ev (Ev.pure _))
end Go.Proofs.YtlogclmmeikbpaaDoor.Pu

