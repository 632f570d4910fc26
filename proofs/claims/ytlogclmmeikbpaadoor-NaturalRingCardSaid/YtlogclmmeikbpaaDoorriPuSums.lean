/- What Add and Sub answer, in both packages, as plain laws over the printed functions. No condition. -/
import Derived.Test.YtlogclmmeikbpaaDoorriPuBinom
import Derived.Test.YtlogclmmeikbpaaDoorriPx17
namespace Go.Proofs.YtlogclmmeikbpaaDoor.Pu
open Go.RowKit Go.Proofs.YtlogclmmeikbpaaDoorW.PrintWords Go.Proofs.YtlogclmmeikbpaaDoor.Given Go.Proofs.YtlogclmmeikbpaaDoor.P
set_option linter.unusedVariables false
/-- The answer of Sub. -/
def subR (a b : List Int) : List Int × Int := if validB a = true ∧ validB b = true then (if (val a).toNat < (val b).toNat then ([], 6) else (digs ((val a).toNat - (val b).toNat), 0)) else ([], 1)
theorem sgn_neg (m n : Nat) : sgn m n < 0 ↔ m < n := by
  unfold sgn
  by_cases h1 : (m : Int) < n
  · rw [if_pos h1]; omega
  · by_cases h2 : (m : Int) > n
    · rw [if_neg h1, if_pos h2]; omega
    · rw [if_neg h1, if_neg h2]; omega
theorem Sub_ev (a b : List Int) : Ev (fun k => natural_Sub.f k a b) (subR a b) := by
  have hj : ∀ c : Bool, c = true → Ev (fun k => natural_Sub.j0 k c a b) ([], 1) := fun c hc => by
    apply Ev.step
    simp only [natural_Sub.j0]
    exact Ev.yes hc (Ev.pure _)
  simp only [natural_Sub.f]
  refine Ev.bind (Ev.of_eq (show natural_Valid.f a = some (validB a) from rfl)) ?_
  unfold subR
  by_cases ha : validB a = true
  · refine Ev.yes ha ?_
    refine Ev.bind (Ev.of_eq (show natural_Valid.f b = some (validB b) from rfl)) ?_
    by_cases hb : validB b = true
    · rw [if_pos ⟨ha, hb⟩, hb]
      have la := (validB_parts ha).1
      have lb := (validB_parts hb).1
      have ea := valid_is ha
      have eb := valid_is hb
      generalize (val a).toNat = m at *
      generalize (val b).toNat = n at *
      subst ea
      subst eb
      apply Ev.step
      simp only [natural_Sub.j0]
      refine Ev.no (by simp) ?_
      refine Ev.bind (nCmp_ev _ _ (by omega)) ?_
      rw [cmp_digs]
      by_cases hc : m < n
      · rw [if_pos hc]
        exact Ev.yes ((sgn_neg m n).2 hc) (Ev.pure _)
      · rw [if_neg hc]
        refine Ev.no (fun h => hc ((sgn_neg m n).1 h)) ?_
        refine Ev.bind (sub_ev m n (by omega) (by omega)) ?_
        have h1 := len_of_lt (show m - n ≤ m by omega)
        have h2 := of_ev (digs (m - n)) (by omega)
        rw [tr_digs_id] at h2
        exact Ev.bind h2 (Ev.pure _)
    · rw [if_neg (fun h => hb h.2)]
      exact hj _ (by simpa using hb)
  · rw [if_neg (fun h => ha h.1)]
    refine Ev.no ha ?_
    exact hj _ rfl
end Go.Proofs.YtlogclmmeikbpaaDoor.Pu

