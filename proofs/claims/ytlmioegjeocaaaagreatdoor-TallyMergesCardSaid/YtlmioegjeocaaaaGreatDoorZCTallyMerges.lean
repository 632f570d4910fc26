/- Proved: the statement TallyMerges: for every two tallies both return the same sum and difference, or the same errors, and the difference undoes the sum. No condition beyond the statement's own. -/
import Derived.Test.YtlmioegjeocaaaaGreatDoorZRowTallyMerges
import Derived.Test.YtlmioegjeocaaaaGreatDoorZn
namespace Go.Proofs.YtlmioegjeocaaaaGreatDoor
open Go.VL Go.VN Go.VS.YtlmioegjeocaaaaGreatDoor
theorem YtlmioegjeocaaaaGreatDoortallyMerges : Rows.TallyMergesCardSaid := TallyMerges.card fun pas h => by
  obtain ⟨a, r1, rfl, ha, h1⟩ := h.agg DTl
  obtain ⟨b, r2, rfl, hb, h2⟩ := h1.agg DTl
  obtain rfl : r2 = [] := h2
  exact law_Merges a b ha hb
#print axioms YtlmioegjeocaaaaGreatDoortallyMerges
end Go.Proofs.YtlmioegjeocaaaaGreatDoor
