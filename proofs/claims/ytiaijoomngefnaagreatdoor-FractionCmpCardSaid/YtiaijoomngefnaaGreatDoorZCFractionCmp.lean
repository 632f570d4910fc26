/- Proved: the statement FractionCmp, for every three fractions: Cmp answers as the reference's does, orders the valid ones, and tells the sign of the difference. No condition beyond the statement's own. -/
import Derived.Test.YtiaijoomngefnaaGreatDoorZRowFractionCmp
import Derived.Test.YtiaijoomngefnaaGreatDoorZVLaw03d
namespace Go.Proofs.YtiaijoomngefnaaGreatDoor
open Go.VL Go.VS.YtiaijoomngefnaaGreatDoor
theorem decF3 : Dec [.bool, .sl 8 [.int .i64], .sl 8 [.int .i64]] Go.VN.eF (fun f => f.2.1.length * 8 ≤ 140737488351232 ∧ f.2.2.length * 8 ≤ 140737488351232) :=
  (Dec.bool.pair ((Dec.sl Dec.i64).pair (Dec.sl Dec.i64))).map fun f h => ⟨f, rfl, h.2.1.1, h.2.2.1⟩
theorem YtiaijoomngefnaaGreatDoorfractionCmp : Rows.FractionCmpCardSaid := FractionCmp.card fun pas h => by
  obtain ⟨x, r1, rfl, hx, h1⟩ := h.agg decF3
  obtain ⟨y, r2, rfl, hy, h2⟩ := h1.agg decF3
  obtain ⟨z, r3, rfl, hz, h3⟩ := h2.agg decF3
  obtain rfl : r3 = [] := h3
  exact law_Cmp x y z ⟨by omega, by omega⟩ ⟨by omega, by omega⟩ ⟨by omega, by omega⟩
#print axioms YtiaijoomngefnaaGreatDoorfractionCmp
end Go.Proofs.YtiaijoomngefnaaGreatDoor
