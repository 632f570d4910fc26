/- Proved: the statement FractionRounded, for every small fraction and every number of digits: the number that Decimal returns is as near as it is told. No condition beyond the statement's own. -/
import Derived.Test.YtiaijoomngefnaaGreatDoorZRowFractionRounded
import Derived.Test.YtiaijoomngefnaaGreatDoorZVLaw03f
namespace Go.Proofs.YtiaijoomngefnaaGreatDoor
open Go.VL Go.VS.YtiaijoomngefnaaGreatDoor
theorem YtiaijoomngefnaaGreatDoorfractionRounded : Rows.FractionRoundedCardSaid := FractionRounded.card fun pas h => by
  obtain ⟨x, r1, rfl, hx, h1⟩ := h.agg ((Dec.int .i16).pair (Dec.int .u8))
  obtain ⟨d, p, r2, hp, rfl, hd, h2⟩ := h1.one (Dec.int .u8)
  obtain rfl : r2 = [] := h2
  cases hp
  exact law_Rounded x.1 x.2 d ⟨hx.1.1, hx.1.2⟩ ⟨hx.2.1, hx.2.2⟩ ⟨hd.1, hd.2⟩
#print axioms YtiaijoomngefnaaGreatDoorfractionRounded
end Go.Proofs.YtiaijoomngefnaaGreatDoor
