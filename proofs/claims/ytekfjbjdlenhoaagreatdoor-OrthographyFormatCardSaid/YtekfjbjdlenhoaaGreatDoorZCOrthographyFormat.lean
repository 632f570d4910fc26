/- Proved: the statement OrthographyFormat, for every orthography: both write the same text or the same error, and the text reads back. No condition beyond the statement's own. -/
import Derived.Test.YtekfjbjdlenhoaaGreatDoorZRowOrthographyFormat
import Derived.Test.YtekfjbjdlenhoaaGreatDoorZk
namespace Go.Proofs.YtekfjbjdlenhoaaGreatDoor
open Go.VL Go.VN Go.VS.YtekfjbjdlenhoaaGreatDoor
theorem YtekfjbjdlenhoaaGreatDoororthographyFormat : Rows.OrthographyFormatCardSaid := OrthographyFormat.card fun pas h => by
  obtain ⟨o, r1, rfl, ho, h1⟩ := h.agg DO
  obtain rfl : r1 = [] := h1
  exact law_Format o (fun s hs => by have := ho.2.2 s hs; omega)
#print axioms YtekfjbjdlenhoaaGreatDoororthographyFormat
end Go.Proofs.YtekfjbjdlenhoaaGreatDoor
