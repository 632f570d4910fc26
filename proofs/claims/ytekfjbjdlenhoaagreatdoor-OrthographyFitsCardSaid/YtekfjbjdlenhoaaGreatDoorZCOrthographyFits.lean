/- Proved: the statement OrthographyFits, for every orthography, every index and any sounds: both say the same. No condition beyond the statement's own. -/
import Derived.Test.YtekfjbjdlenhoaaGreatDoorZRowOrthographyFits
import Derived.Test.YtekfjbjdlenhoaaGreatDoorZk
namespace Go.Proofs.YtekfjbjdlenhoaaGreatDoor
open Go.VL Go.VN Go.VS.YtekfjbjdlenhoaaGreatDoor
theorem YtekfjbjdlenhoaaGreatDoororthographyFits : Rows.OrthographyFitsCardSaid := OrthographyFits.card fun pas h => by
  obtain ⟨o, r1, rfl, ho, h1⟩ := h.agg DO
  obtain ⟨i, c, r2, hi, rfl, hb, h2⟩ := h1.one Dec.i64
  obtain ⟨x, r3, rfl, hx, h3⟩ := h2.agg ((Dec.sl DSd).pair (Dec.sl DSd))
  obtain rfl : r3 = [] := h3
  cases hi
  exact law_Fits o i x.1 x.2 (fun s hs => by have := ho.2.2 s hs; omega)
#print axioms YtekfjbjdlenhoaaGreatDoororthographyFits
end Go.Proofs.YtekfjbjdlenhoaaGreatDoor
