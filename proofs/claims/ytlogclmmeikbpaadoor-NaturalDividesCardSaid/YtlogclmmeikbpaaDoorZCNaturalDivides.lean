/- Proved: the statement NaturalDivides, for every two rows of digits: Div answers as the reference's Div does, and the quotient times the divisor, plus the remainder, is the dividend. No condition beyond the statement's own. -/
import Derived.Test.YtlogclmmeikbpaaDoorZd
namespace Go.Proofs.YtlogclmmeikbpaaDoor
open Go.VL Go.VS.YtlogclmmeikbpaaDoor
theorem decN : Dec [.sl 8 [.int .i64]] eN (fun l => l.length * 8 ≤ 140737488351232) := (Dec.sl Dec.i64).map fun l h => ⟨l, rfl, h.1⟩
theorem YtlogclmmeikbpaaDoornaturalDivides : Rows.NaturalDividesCardSaid := NaturalDivides.card fun pas h => by
  obtain ⟨a, r1, rfl, ha, h1⟩ := h.agg decN
  obtain ⟨b, r2, rfl, hb, h2⟩ := h1.agg decN
  obtain rfl : r2 = [] := h2
  exact law_Divides a b (by omega) (by omega)
#print axioms YtlogclmmeikbpaaDoornaturalDivides
end Go.Proofs.YtlogclmmeikbpaaDoor
