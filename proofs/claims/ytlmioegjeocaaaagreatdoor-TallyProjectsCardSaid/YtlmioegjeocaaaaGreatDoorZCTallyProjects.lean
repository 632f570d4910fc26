/- Proved: the statement TallyProjects: for every tally and every number of parts both cut the keys alike, or return the same error, and the total remains. No condition beyond the statement's own. -/
import Derived.Test.YtlmioegjeocaaaaGreatDoorZRowTallyProjects
import Derived.Test.YtlmioegjeocaaaaGreatDoorZn
namespace Go.Proofs.YtlmioegjeocaaaaGreatDoor
open Go.VL Go.VN Go.VS.YtlmioegjeocaaaaGreatDoor
theorem YtlmioegjeocaaaaGreatDoortallyProjects : Rows.TallyProjectsCardSaid := TallyProjects.card fun pas h => by
  obtain ⟨t, r1, rfl, ht, h1⟩ := h.agg DTl
  obtain ⟨n, d, r2, hn, rfl, hc, h2⟩ := h1.one Dec.i64
  obtain rfl : r2 = [] := h2
  cases hn
  exact law_Projects t n ht
#print axioms YtlmioegjeocaaaaGreatDoortallyProjects
end Go.Proofs.YtlmioegjeocaaaaGreatDoor
