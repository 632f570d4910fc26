/- Plain laws over decimal texts: what the library's and the chapter's functions on texts answer. No program is walked here, and no condition stands. -/
import Derived.Test.YtlogclmmeikbpaaDoorriKit
import Derived.Test.YtlogclmmeikbpaaDoorriFmt
namespace Go.Proofs.YtlogclmmeikbpaaDoor.Pu
open Go.RowKit Go.Proofs.YtlogclmmeikbpaaDoorW.PrintWords Go.Proofs.YtlogclmmeikbpaaDoor.Given
set_option linter.unusedVariables false

theorem tr_getLast (l : List Int) : (tr l).getLast? ≠ some 0 := by
  generalize hn : l.length = n
  induction n generalizing l with
  | zero => obtain rfl := List.eq_nil_of_length_eq_zero hn; simp [tr]
  | succ n ih =>
    rcases List.eq_nil_or_concat l with rfl | ⟨l', x, rfl⟩
    · cases hn
    · rw [List.concat_eq_append] at hn ⊢
      by_cases hx : x = 0
      · subst hx
        rw [tr_zero]
        exact ih l' (by simpa using hn)
      · rw [tr_last l' x hx]
        simpa using hx
theorem tr_dig {l : List Int} (h : Dig l) : Dig (tr l) := by rw [tr_digs h]; exact dig_digs _
theorem valid_tr {l : List Int} (h : Dig l) (hl : (tr l).length ≤ 200) : validB (tr l) = true := by
  unfold validB
  rw [decide_eq_true hl]
  have h1 := tr_getLast l
  have h2 := tr_dig h
  simp only [Bool.true_and, Bool.and_eq_true, Bool.not_eq_true', beq_eq_false_iff_ne, ne_eq, List.all_eq_true, decide_eq_true_eq]
  exact ⟨h1, h2⟩
end Go.Proofs.YtlogclmmeikbpaaDoor.Pu

