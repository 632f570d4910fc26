/- Proved: the statement NaturalBinomial, for every two numbers: Binomial answers as the reference's Binomial does, is symmetric, and is the sum of its two neighbours in the row ahead. No condition beyond the statement's own. -/
import Derived.Test.YtlogclmmeikbpaaDoorbiRowNaturalBinomial
import Derived.Test.YtlogclmmeikbpaaDoorbiPuBinom
namespace Go.Proofs.YtlogclmmeikbpaaDoor
theorem YtlogclmmeikbpaaDoornaturalBinomial : Rows.NaturalBinomialCardSaid := NaturalBinomial.card fun a0 a1 W hG z0 z1 => by
  obtain ⟨k, h⟩ := (Pu.lawBinomial a0 a1 z0 z1).get
  exact P.ancepslaw02_NaturalBinomial.calls k a0 a1 true W hG h
#print axioms YtlogclmmeikbpaaDoornaturalBinomial
end Go.Proofs.YtlogclmmeikbpaaDoor

