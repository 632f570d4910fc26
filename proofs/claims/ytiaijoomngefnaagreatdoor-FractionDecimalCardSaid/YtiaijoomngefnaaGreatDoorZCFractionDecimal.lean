/- Proved: the statement FractionDecimal, for every fraction and every number of digits: Decimal answers as the reference's Decimal does. No condition beyond the statement's own. -/
import Derived.Test.YtiaijoomngefnaaGreatDoorZRowFractionDecimal
import Derived.Test.YtiaijoomngefnaaGreatDoorZVLaw03
namespace Go.Proofs.YtiaijoomngefnaaGreatDoor
open Go.VL Go.VS.YtiaijoomngefnaaGreatDoor
theorem decF3 : Dec [.bool, .sl 8 [.int .i64], .sl 8 [.int .i64]] Go.VN.eF (fun f => f.2.1.length * 8 ≤ 140737488351232 ∧ f.2.2.length * 8 ≤ 140737488351232) :=
  (Dec.bool.pair ((Dec.sl Dec.i64).pair (Dec.sl Dec.i64))).map fun f h => ⟨f, rfl, h.2.1.1, h.2.2.1⟩
theorem YtiaijoomngefnaaGreatDoorfractionDecimal : Rows.FractionDecimalCardSaid := FractionDecimal.card fun pas h => by
  obtain ⟨x, r1, rfl, hx, h1⟩ := h.agg decF3
  obtain ⟨d, p, r2, hp, rfl, hd, h2⟩ := h1.one Dec.i64
  obtain rfl : r2 = [] := h2
  cases hp
  exact law_Decimal x d (by omega) (by omega)
#print axioms YtiaijoomngefnaaGreatDoorfractionDecimal
end Go.Proofs.YtiaijoomngefnaaGreatDoor
