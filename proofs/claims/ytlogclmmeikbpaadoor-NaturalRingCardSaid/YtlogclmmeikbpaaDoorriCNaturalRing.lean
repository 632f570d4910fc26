/- Proved: the statement NaturalRing, for every three rows of numbers: sums and products are commutative and associative, products distribute over sums, and a difference is undone by a sum. No condition beyond the statement's own. -/
import Derived.Test.YtlogclmmeikbpaaDoorriRowNaturalRing
import Derived.Test.YtlogclmmeikbpaaDoorriPuRing
namespace Go.Proofs.YtlogclmmeikbpaaDoor
theorem u16_bounds {l : List Int} (h : ∀ d ∈ l, (Lit.int .u16 d).wf = true) : ∀ d ∈ l, 0 ≤ d ∧ d ≤ 65535 := fun d hd => by
  have := h d hd
  simp only [Lit.wf, IntKind.min, IntKind.max, IntKind.signed, IntKind.bits, Bool.and_eq_true] at this
  simpa using this
theorem YtlogclmmeikbpaaDoornaturalRing : Rows.NaturalRingCardSaid := NaturalRing.card fun A0 c0 l0 A1 c1 l1 A2 c2 l2 W hG z0 hr0 hc0 hz0 z1 hr1 hc1 hz1 z2 hr2 hc2 hz2 => by
  obtain ⟨k, h⟩ := (Pu.lawRing l0 l1 l2 (u16_bounds hz0) (u16_bounds hz1) (u16_bounds hz2)).get
  exact P.ancepslaw02_NaturalRing.calls k A0 c0 l0 A1 c1 l1 A2 c2 l2 true W hr0 hc0 hr1 hc1 hr2 hc2 hG h
#print axioms YtlogclmmeikbpaaDoornaturalRing
end Go.Proofs.YtlogclmmeikbpaaDoor

