/- Proved: the statement NaturalValid, for every two rows of digits and every number: Valid, Cmp and Of answer as the reference's do. No condition beyond the statement's own. -/
import Derived.Test.YtlogclmmeikbpaaDoorvaRowNaturalValid
import Derived.Test.YtlogclmmeikbpaaDoorvaPuValid
import Derived.Test.YtlogclmmeikbpaaDoorvaVC
namespace Go.Proofs.YtlogclmmeikbpaaDoor
theorem YtlogclmmeikbpaaDoornaturalValid : Rows.NaturalValidCardSaid := NaturalValid.card fun A0 c0 l0 A1 c1 l1 a2 W hG z0 hr0 hc0 _ z1 hr1 hc1 _ z2 => by
  obtain ⟨k, h⟩ := (Pu.lawValid l0 l1 a2 (by omega) (by omega) z2.2).get
  exact P.ancepslaw02_NaturalValid.calls k _ A0 c0 l0 _ A1 c1 l1 a2 true W (V_of_C hr0 hc0) (V_of_C hr1 hc1) hG h
#print axioms YtlogclmmeikbpaaDoornaturalValid
end Go.Proofs.YtlogclmmeikbpaaDoor

