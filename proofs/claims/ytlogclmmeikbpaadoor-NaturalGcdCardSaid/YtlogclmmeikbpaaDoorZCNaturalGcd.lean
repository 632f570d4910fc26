/- Proved: the statement NaturalGcd, for every two rows of digits and every third row: Gcd answers as the reference's Gcd does, divides both, and is divided by every common divisor. No condition beyond the statement's own. -/
import Derived.Test.YtlogclmmeikbpaaDoorZd
namespace Go.Proofs.YtlogclmmeikbpaaDoor
open Go.VL Go.VS.YtlogclmmeikbpaaDoor
theorem decN : Dec [.sl 8 [.int .i64]] eN (fun l => l.length * 8 ≤ 140737488351232) := (Dec.sl Dec.i64).map fun l h => ⟨l, rfl, h.1⟩
theorem decW : Dec [.int .u16] eW (fun z => 0 ≤ z ∧ z ≤ 65535) := (Dec.int .u16).map fun z h => ⟨z, rfl, by simpa [IntKind.min, IntKind.max, IntKind.signed, IntKind.bits] using h⟩
theorem YtlogclmmeikbpaaDoornaturalGcd : Rows.NaturalGcdCardSaid := NaturalGcd.card fun pas h => by
  obtain ⟨a, r1, rfl, ha, h1⟩ := h.agg decN
  obtain ⟨b, r2, rfl, hb, h2⟩ := h1.agg decN
  obtain ⟨c, p, r3, hp, rfl, hc, h3⟩ := h2.one (Dec.sl decW)
  obtain rfl : r3 = [] := h3
  cases hp
  exact law_Gcd a b c (by omega) (by omega) hc.2
#print axioms YtlogclmmeikbpaaDoornaturalGcd
end Go.Proofs.YtlogclmmeikbpaaDoor
