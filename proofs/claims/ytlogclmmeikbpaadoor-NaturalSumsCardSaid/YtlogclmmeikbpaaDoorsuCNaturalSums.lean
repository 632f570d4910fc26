/- Proved: the statement NaturalSums, for every two rows of digits: Add and Sub answer as the reference's Add and Sub do. No condition beyond the statement's own. -/
import Derived.Test.YtlogclmmeikbpaaDoorsuRowNaturalSums
import Derived.Test.YtlogclmmeikbpaaDoorsuPuLSums
import Derived.Test.YtlogclmmeikbpaaDoorsuVC
namespace Go.Proofs.YtlogclmmeikbpaaDoor
theorem YtlogclmmeikbpaaDoornaturalSums : Rows.NaturalSumsCardSaid := NaturalSums.card fun A0 c0 l0 A1 c1 l1 W hG z0 hr0 hc0 _ z1 hr1 hc1 _ => by
  obtain ⟨k, h⟩ := (Pu.lawSums l0 l1 (by omega) (by omega)).get
  exact P.ancepslaw02_NaturalSums.calls k _ A0 c0 l0 _ A1 c1 l1 true W (V_of_C hr0 hc0) (V_of_C hr1 hc1) hG h
#print axioms YtlogclmmeikbpaaDoornaturalSums
end Go.Proofs.YtlogclmmeikbpaaDoor

