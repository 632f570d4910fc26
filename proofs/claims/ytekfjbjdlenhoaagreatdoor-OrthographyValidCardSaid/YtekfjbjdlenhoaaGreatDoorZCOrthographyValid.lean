/- Proved: the statement OrthographyValid, for every orthography: both say the same error. No condition beyond the statement's own. -/
import Derived.Test.YtekfjbjdlenhoaaGreatDoorZRowOrthographyValid
import Derived.Test.YtekfjbjdlenhoaaGreatDoorZk
namespace Go.Proofs.YtekfjbjdlenhoaaGreatDoor
open Go.VL Go.VN Go.VS.YtekfjbjdlenhoaaGreatDoor
theorem YtekfjbjdlenhoaaGreatDoororthographyValid : Rows.OrthographyValidCardSaid := OrthographyValid.card fun pas h => by
  obtain ⟨o, r1, rfl, ho, h1⟩ := h.agg DO
  obtain rfl : r1 = [] := h1
  exact law_Valid o (fun s hs => by have := ho.2.2 s hs; omega)
#print axioms YtekfjbjdlenhoaaGreatDoororthographyValid
end Go.Proofs.YtekfjbjdlenhoaaGreatDoor
