/- The law NaturalSums, as a plain law over the printed functions. No condition. -/
import Derived.Test.YtlogclmmeikbpaaDoorsuPuSums
import Derived.Test.YtlogclmmeikbpaaDoorsuLSums
namespace Go.Proofs.YtlogclmmeikbpaaDoor.Pu
open Go.RowKit Go.Proofs.YtlogclmmeikbpaaDoorW.PrintWords Go.Proofs.YtlogclmmeikbpaaDoor.Given Go.Proofs.YtlogclmmeikbpaaDoor.P
set_option linter.unusedVariables false
theorem lawSums (a b : List Int) (la : a.length ≤ 1000000000000000) (lb : b.length ≤ 1000000000000000) : Ev (fun k => ancepslaw02_NaturalSums.f k a b) true := by
  simp only [ancepslaw02_NaturalSums.f]
  refine Ev.bind awake_ev (Ev.yes rfl ?_)
  refine Ev.bind (few2_ev a b la lb) ?_
  by_cases hf : (a.length : Int) + b.length ≤ 420
  · refine Ev.yes (decide_eq_true hf) ?_
    refine Ev.bind (Ev.of_eq (copied_ev a (by omega))) (Ev.bind (Ev.of_eq (copied_ev b (by omega))) ?_)
    refine Ev.bind (Add_ev a b) (Ev.bind (refAdd_ev a b la lb) ?_)
    refine Ev.bind (Ev.of_eq (copied_ev a (by omega))) (Ev.bind (Ev.of_eq (copied_ev b (by omega))) ?_)
    refine Ev.bind (Sub_ev a b) (Ev.bind (refSub_ev a b la lb) ?_)
    have h1 := addR_len a b
    have h2 := subR_len a b
    refine Ev.yes rfl (Ev.bind (Same_yes _ (by omega)) (Ev.yes rfl (Ev.yes rfl ?_)))
    exact Ev.bind (Same_yes _ (by omega)) (Ev.pure _)
  · exact Ev.no (by simpa using hf) (Ev.bind awake_ev (Ev.pure _))
end Go.Proofs.YtlogclmmeikbpaaDoor.Pu

