/- Proved: the statement FractionSum, for every list of fractions and every small fraction: Sum answers as the reference's does, and with one more it is greater by this one. No condition beyond the statement's own. -/
import Derived.Test.YtiaijoomngefnaaGreatDoorZRowFractionSum
import Derived.Test.YtiaijoomngefnaaGreatDoorZVLaw03c
namespace Go.Proofs.YtiaijoomngefnaaGreatDoor
open Go.VL Go.VS.YtiaijoomngefnaaGreatDoor
theorem decF3 : Dec [.bool, .sl 8 [.int .i64], .sl 8 [.int .i64]] Go.VN.eF (fun f => f.2.1.length * 8 ≤ 140737488351232 ∧ f.2.2.length * 8 ≤ 140737488351232) :=
  (Dec.bool.pair ((Dec.sl Dec.i64).pair (Dec.sl Dec.i64))).map fun f h => ⟨f, rfl, h.2.1.1, h.2.2.1⟩
theorem YtiaijoomngefnaaGreatDoorfractionSum : Rows.FractionSumCardSaid := FractionSum.card fun pas h => by
  obtain ⟨l, p, r1, hp, rfl, hl, h1⟩ := h.one (Dec.sl decF3)
  obtain ⟨x, r2, rfl, hx, h2⟩ := h1.agg ((Dec.int .i16).pair (Dec.int .u8))
  obtain rfl : r2 = [] := h2
  cases hp
  refine law_Sum l x.1 x.2 (fun f hf => ?_) ?_ ?_
  · have := hl.2 f hf
    exact ⟨by omega, by omega⟩
  · exact ⟨hx.1.1, hx.1.2⟩
  · exact ⟨hx.2.1, hx.2.2⟩
#print axioms YtiaijoomngefnaaGreatDoorfractionSum
end Go.Proofs.YtiaijoomngefnaaGreatDoor
