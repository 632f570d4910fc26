/- Numbers of subsets, what the two Binomial functions and Add answer, and the law NaturalBinomial, as plain laws over the printed functions. No condition. -/
import Derived.Test.YtlogclmmeikbpaaDoorriPuDiv
import Derived.Test.YtlogclmmeikbpaaDoorriPx16
namespace Go.Proofs.YtlogclmmeikbpaaDoor.Pu
open Go.RowKit Go.Proofs.YtlogclmmeikbpaaDoorW.PrintWords Go.Proofs.YtlogclmmeikbpaaDoor.Given Go.Proofs.YtlogclmmeikbpaaDoor.P
set_option linter.unusedVariables false

theorem valid_digs (n : Nat) (h : (digs n).length ≤ 200) : validB (digs n) = true := by
  have := valid_tr (dig_digs n) (by rw [tr_digs_id]; exact h)
  rwa [tr_digs_id] at this
theorem valid_is {l : List Int} (h : validB l = true) : l = digs (val l).toNat := by
  obtain ⟨h1, h2, h3⟩ := validB_parts h
  exact norm_digs h2 h3
/-- The answer of Add. -/
def addR (a b : List Int) : List Int × Int := if validB a = true ∧ validB b = true then fit ((val a).toNat + (val b).toNat) else ([], 1)
theorem Add_ev (a b : List Int) : Ev (fun k => natural_Add.f k a b) (addR a b) := by
  have hj : ∀ c : Bool, c = true → Ev (fun k => natural_Add.j0 k c a b) ([], 1) := fun c hc => by
    apply Ev.step
    simp only [natural_Add.j0]
    exact Ev.yes hc (Ev.pure _)
  simp only [natural_Add.f]
  refine Ev.bind (Ev.of_eq (show natural_Valid.f a = some (validB a) from rfl)) ?_
  unfold addR
  by_cases ha : validB a = true
  · refine Ev.yes ha ?_
    refine Ev.bind (Ev.of_eq (show natural_Valid.f b = some (validB b) from rfl)) ?_
    by_cases hb : validB b = true
    · rw [if_pos ⟨ha, hb⟩, hb]
      have la := (validB_parts ha).1
      have lb := (validB_parts hb).1
      have ea := valid_is ha
      have eb := valid_is hb
      generalize (val a).toNat = m at *
      generalize (val b).toNat = n at *
      subst ea
      subst eb
      have hl : (digs (m + n)).length ≤ 201 := by
        apply digs_le
        have h1 := len_lt m
        have h2 := len_lt n
        have h3 := pow_mono la
        have h4 := pow_mono lb
        rw [Int.pow_succ]
        omega
      apply Ev.step
      simp only [natural_Add.j0]
      refine Ev.no (by simp) ?_
      exact Ev.bind (add_ev m n (by omega) (by omega)) (Ev.bind (fit_ev _ (by omega)) (Ev.pure _))
    · rw [if_neg (fun h => hb h.2)]
      exact hj _ (by simpa using hb)
  · rw [if_neg (fun h => ha h.1)]
    refine Ev.no ha ?_
    exact hj _ rfl
theorem addR_digs (m n : Nat) (hm : (digs m).length ≤ 200) (hn : (digs n).length ≤ 200) : addR (digs m) (digs n) = fit (m + n) := by
  unfold addR
  rw [if_pos ⟨valid_digs m hm, valid_digs n hn⟩, val_digs, val_digs]
  rfl
end Go.Proofs.YtlogclmmeikbpaaDoor.Pu

