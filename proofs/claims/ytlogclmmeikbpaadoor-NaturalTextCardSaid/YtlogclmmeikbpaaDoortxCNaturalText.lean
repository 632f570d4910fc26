/- Proved: the statement NaturalText, for every row of digits: Format answers as the reference's Format does, and Parse leads back. No condition beyond the statement's own. -/
import Derived.Test.YtlogclmmeikbpaaDoortxRowNaturalText
import Derived.Test.YtlogclmmeikbpaaDoortxPuText
import Derived.Test.YtlogclmmeikbpaaDoortxVC
namespace Go.Proofs.YtlogclmmeikbpaaDoor
theorem YtlogclmmeikbpaaDoornaturalText : Rows.NaturalTextCardSaid := NaturalText.card fun A0 c0 l0 W hG z0 hr0 hc0 _ => by
  obtain ⟨k, h⟩ := (Pu.lawText l0 (by omega)).get
  exact P.ancepslaw02_NaturalText.calls k _ A0 c0 l0 true W (V_of_C hr0 hc0) hG h
#print axioms YtlogclmmeikbpaaDoornaturalText
end Go.Proofs.YtlogclmmeikbpaaDoor

