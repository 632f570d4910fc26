/- Proved: the statement FractionText, for every fraction: Valid and Format answer as the reference's do, and Parse leads back. No condition beyond the statement's own. -/
import Derived.Test.YtiaijoomngefnaaGreatDoorZRowFractionText
import Derived.Test.YtiaijoomngefnaaGreatDoorZVLaw03
namespace Go.Proofs.YtiaijoomngefnaaGreatDoor
open Go.VL Go.VS.YtiaijoomngefnaaGreatDoor
theorem decF3 : Dec [.bool, .sl 8 [.int .i64], .sl 8 [.int .i64]] Go.VN.eF (fun f => f.2.1.length * 8 ≤ 140737488351232 ∧ f.2.2.length * 8 ≤ 140737488351232) :=
  (Dec.bool.pair ((Dec.sl Dec.i64).pair (Dec.sl Dec.i64))).map fun f h => ⟨f, rfl, h.2.1.1, h.2.2.1⟩
theorem YtiaijoomngefnaaGreatDoorfractionText : Rows.FractionTextCardSaid := FractionText.card fun pas h => by
  obtain ⟨x, r1, rfl, hx, h1⟩ := h.agg decF3
  obtain rfl : r1 = [] := h1
  exact law_Text x (by omega) (by omega)
#print axioms YtiaijoomngefnaaGreatDoorfractionText
end Go.Proofs.YtiaijoomngefnaaGreatDoor
