/- Proved: the statement TallyCounts: for every tally, key and number both change the count alike, or return the same error, and the count is what it should be. No condition beyond the statement's own. -/
import Derived.Test.YtlmioegjeocaaaaGreatDoorZRowTallyCounts
import Derived.Test.YtlmioegjeocaaaaGreatDoorZn
namespace Go.Proofs.YtlmioegjeocaaaaGreatDoor
open Go.VL Go.VN Go.VS.YtlmioegjeocaaaaGreatDoor
theorem YtlmioegjeocaaaaGreatDoortallyCounts : Rows.TallyCountsCardSaid := TallyCounts.card fun pas h => by
  obtain ⟨t, r1, rfl, ht, h1⟩ := h.agg DTl
  obtain ⟨k, c, r2, hk, rfl, hb, h2⟩ := h1.one Dec.str
  obtain ⟨n, d, r3, hn, rfl, hc, h3⟩ := h2.one Dec.i64
  obtain rfl : r3 = [] := h3
  cases hk
  cases hn
  exact law_Counts t k n ht
#print axioms YtlmioegjeocaaaaGreatDoortallyCounts
end Go.Proofs.YtlmioegjeocaaaaGreatDoor
