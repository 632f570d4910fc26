/- Proved: the statement FractionField, for every three small fractions: sums and products obey the laws of a field. No condition beyond the statement's own. -/
import Derived.Test.YtiaijoomngefnaaGreatDoorZRowFractionField
import Derived.Test.YtiaijoomngefnaaGreatDoorZVLaw03e
namespace Go.Proofs.YtiaijoomngefnaaGreatDoor
open Go.VL Go.VS.YtiaijoomngefnaaGreatDoor
theorem YtiaijoomngefnaaGreatDoorfractionField : Rows.FractionFieldCardSaid := FractionField.card fun pas h => by
  obtain ⟨x, r1, rfl, hx, h1⟩ := h.agg ((Dec.int .i16).pair (Dec.int .u8))
  obtain ⟨y, r2, rfl, hy, h2⟩ := h1.agg ((Dec.int .i16).pair (Dec.int .u8))
  obtain ⟨z, r3, rfl, hz, h3⟩ := h2.agg ((Dec.int .i16).pair (Dec.int .u8))
  obtain rfl : r3 = [] := h3
  exact law_Field x.1 y.1 z.1 x.2 y.2 z.2 ⟨hx.1.1, hx.1.2⟩ ⟨hx.2.1, hx.2.2⟩ ⟨hy.1.1, hy.1.2⟩ ⟨hy.2.1, hy.2.2⟩ ⟨hz.1.1, hz.1.2⟩ ⟨hz.2.1, hz.2.2⟩
#print axioms YtiaijoomngefnaaGreatDoorfractionField
end Go.Proofs.YtiaijoomngefnaaGreatDoor
