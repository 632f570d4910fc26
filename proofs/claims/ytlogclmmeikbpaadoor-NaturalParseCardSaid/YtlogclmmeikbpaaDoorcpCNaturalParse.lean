/- Proved: the statement NaturalParse, for every text: Parse answers as the reference's Parse does, and Format leads back to the text. No condition beyond the statement's own. -/
import Derived.Test.YtlogclmmeikbpaaDoorcpRowNaturalParse
import Derived.Test.YtlogclmmeikbpaaDoorcpPuParse
namespace Go.Proofs.YtlogclmmeikbpaaDoor
theorem YtlogclmmeikbpaaDoornaturalParse : Rows.NaturalParseCardSaid := NaturalParse.card fun a0 W hG z0 => by
  obtain ⟨k, h⟩ := (Pu.lawParse a0).get
  exact P.ancepslaw02_NaturalParse.calls k a0 true W hG h
#print axioms YtlogclmmeikbpaaDoornaturalParse
end Go.Proofs.YtlogclmmeikbpaaDoor

