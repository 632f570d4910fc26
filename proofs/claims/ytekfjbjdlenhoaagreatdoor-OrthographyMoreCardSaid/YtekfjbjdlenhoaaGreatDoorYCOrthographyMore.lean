/- Proved: the statement OrthographyMore, for every draft and every sign: a further sign turns no other one's index, and is found. No condition beyond the statement's own. -/
import Derived.Test.YtekfjbjdlenhoaaGreatDoorYRowOrthographyMore
import Derived.Test.YtekfjbjdlenhoaaGreatDoorYl
namespace Go.Proofs.YtekfjbjdlenhoaaGreatDoor
open Go.VL Go.VN Go.VS.YtekfjbjdlenhoaaGreatDoor
theorem YtekfjbjdlenhoaaGreatDoororthographyMore : Rows.OrthographyMoreCardSaid := OrthographyMore.card fun pas h => by
  obtain ⟨d, r1, rfl, hd, h1⟩ := h.agg DDr
  obtain ⟨s, r2, rfl, hs, h2⟩ := h1.agg DSg
  obtain rfl : r2 = [] := h2
  exact law_More d.1 d.2.1 d.2.2 s (by have := hs.1; omega)
#print axioms YtekfjbjdlenhoaaGreatDoororthographyMore
end Go.Proofs.YtekfjbjdlenhoaaGreatDoor
