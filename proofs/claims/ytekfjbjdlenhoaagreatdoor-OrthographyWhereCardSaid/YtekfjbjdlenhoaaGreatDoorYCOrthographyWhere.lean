/- Proved: the statement OrthographyWhere, for every draft, every number and any sounds. No condition beyond the statement's own. -/
import Derived.Test.YtekfjbjdlenhoaaGreatDoorYRowOrthographyWhere
import Derived.Test.YtekfjbjdlenhoaaGreatDoorYl
namespace Go.Proofs.YtekfjbjdlenhoaaGreatDoor
open Go.VL Go.VN Go.VS.YtekfjbjdlenhoaaGreatDoor
theorem YtekfjbjdlenhoaaGreatDoororthographyWhere : Rows.OrthographyWhereCardSaid := OrthographyWhere.card fun pas h => by
  obtain ⟨d, r1, rfl, hd, h1⟩ := h.agg DDr
  obtain ⟨g, c, r2, hg, rfl, hgb, h2⟩ := h1.one DU8
  obtain ⟨x, r3, rfl, hx, h3⟩ := h2.agg ((Dec.sl DSd).pair (Dec.sl DSd))
  obtain rfl : r3 = [] := h3
  cases hg
  exact law_Where d.1 d.2.1 d.2.2 g x.1 x.2
#print axioms YtekfjbjdlenhoaaGreatDoororthographyWhere
end Go.Proofs.YtekfjbjdlenhoaaGreatDoor
