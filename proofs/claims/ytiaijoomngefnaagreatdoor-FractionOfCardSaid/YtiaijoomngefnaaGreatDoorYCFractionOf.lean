/- Proved: the statement FractionOf, for every two integers and every two numbers: Of and New answer as the reference's do. No condition beyond the statement's own. -/
import Derived.Test.YtiaijoomngefnaaGreatDoorYRowFractionOf
import Derived.Test.YtiaijoomngefnaaGreatDoorYVLaw03g
namespace Go.Proofs.YtiaijoomngefnaaGreatDoor
open Go.VL Go.VS.YtiaijoomngefnaaGreatDoor
theorem YtiaijoomngefnaaGreatDoorfractionOf : Rows.FractionOfCardSaid := FractionOf.card fun pas h => by
  obtain ⟨p, c, r1, hp, rfl, hx, h1⟩ := h.one Dec.i64
  obtain ⟨q, d, r2, hq, rfl, hy, h2⟩ := h1.one Dec.i64
  obtain ⟨x, r3, rfl, hz, h3⟩ := h2.agg ((Dec.sl Dec.i64).pair (Dec.sl Dec.i64))
  obtain rfl : r3 = [] := h3
  cases hp
  cases hq
  exact law_Of p q x.1 x.2 (by have := hz.1.1; omega) (by have := hz.2.1; omega)
#print axioms YtiaijoomngefnaaGreatDoorfractionOf
end Go.Proofs.YtiaijoomngefnaaGreatDoor
