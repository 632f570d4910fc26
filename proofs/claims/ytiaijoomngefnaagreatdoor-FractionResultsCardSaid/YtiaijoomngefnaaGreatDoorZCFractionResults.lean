/- Proved: the statement FractionResults, for every two fractions: Add, Sub, Mul and Div answer as the reference's do, and what they return is valid. No condition beyond the statement's own. -/
import Derived.Test.YtiaijoomngefnaaGreatDoorZRowFractionResults
import Derived.Test.YtiaijoomngefnaaGreatDoorZVLaw03b
namespace Go.Proofs.YtiaijoomngefnaaGreatDoor
open Go.VL Go.VS.YtiaijoomngefnaaGreatDoor
theorem decF3 : Dec [.bool, .sl 8 [.int .i64], .sl 8 [.int .i64]] Go.VN.eF (fun f => f.2.1.length * 8 ≤ 140737488351232 ∧ f.2.2.length * 8 ≤ 140737488351232) :=
  (Dec.bool.pair ((Dec.sl Dec.i64).pair (Dec.sl Dec.i64))).map fun f h => ⟨f, rfl, h.2.1.1, h.2.2.1⟩
theorem YtiaijoomngefnaaGreatDoorfractionResults : Rows.FractionResultsCardSaid := FractionResults.card fun pas h => by
  obtain ⟨x, r1, rfl, hx, h1⟩ := h.agg decF3
  obtain ⟨y, r2, rfl, hy, h2⟩ := h1.agg decF3
  obtain rfl : r2 = [] := h2
  exact law_Results x y ⟨by omega, by omega⟩ ⟨by omega, by omega⟩
#print axioms YtiaijoomngefnaaGreatDoorfractionResults
end Go.Proofs.YtiaijoomngefnaaGreatDoor
