/- Proved: the statement FractionParse, for every string: Parse answers as the reference's Parse does, and a fraction that it returns has this text. No condition beyond the statement's own. -/
import Derived.Test.YtiaijoomngefnaaGreatDoorZRowFractionParse
import Derived.Test.YtiaijoomngefnaaGreatDoorZVLaw03
namespace Go.Proofs.YtiaijoomngefnaaGreatDoor
open Go.VL Go.VS.YtiaijoomngefnaaGreatDoor
theorem YtiaijoomngefnaaGreatDoorfractionParse : Rows.FractionParseCardSaid := FractionParse.card fun pas h => by
  obtain ⟨x, p, r1, hp, rfl, hx, h1⟩ := h.one Dec.str
  obtain rfl : r1 = [] := h1
  cases hp
  exact law_Parse x (by omega)
#print axioms YtiaijoomngefnaaGreatDoorfractionParse
end Go.Proofs.YtiaijoomngefnaaGreatDoor
