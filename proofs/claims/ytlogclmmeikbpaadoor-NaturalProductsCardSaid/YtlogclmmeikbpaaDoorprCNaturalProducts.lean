/- Proved: the statement NaturalProducts, for every two rows of digits: Mul answers as the reference's Mul does. No condition beyond the statement's own. -/
import Derived.Test.YtlogclmmeikbpaaDoorprRowNaturalProducts
import Derived.Test.YtlogclmmeikbpaaDoorprPuProducts
import Derived.Test.YtlogclmmeikbpaaDoorprVC
namespace Go.Proofs.YtlogclmmeikbpaaDoor
theorem YtlogclmmeikbpaaDoornaturalProducts : Rows.NaturalProductsCardSaid := NaturalProducts.card fun A0 c0 l0 A1 c1 l1 W hG z0 hr0 hc0 _ z1 hr1 hc1 _ => by
  obtain ⟨k, h⟩ := (Pu.lawProducts l0 l1 (by omega) (by omega)).get
  exact P.ancepslaw02_NaturalProducts.calls k _ A0 c0 l0 _ A1 c1 l1 true W (V_of_C hr0 hc0) (V_of_C hr1 hc1) hG h
#print axioms YtlogclmmeikbpaaDoornaturalProducts
end Go.Proofs.YtlogclmmeikbpaaDoor

