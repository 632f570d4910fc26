/- What the chapter's small functions answer, as plain laws over the printed functions: zeros taken away, comparison. No condition. -/
import Derived.Test.YtlogclmmeikbpaaDoorriTxt
import Derived.Test.YtlogclmmeikbpaaDoorriPx2
import Derived.Test.YtlogclmmeikbpaaDoorriPx6
import Derived.Test.YtlogclmmeikbpaaDoorriPx7
namespace Go.Proofs.YtlogclmmeikbpaaDoor.Pu
open Go.RowKit Go.Proofs.YtlogclmmeikbpaaDoorW.PrintWords Go.Proofs.YtlogclmmeikbpaaDoor.Given Go.Proofs.YtlogclmmeikbpaaDoor.P
set_option linter.unusedVariables false

theorem trimmed_ev (l : List Int) (h : l.length ≤ 1000000000000) : Ev (fun k => natural_trimmed.f k l) (tr l) := by
  show Ev (fun k => natural_trimmed.l0 k l) (tr l)
  generalize hn : l.length = n
  induction n generalizing l with
  | zero =>
    obtain rfl := List.eq_nil_of_length_eq_zero hn
    apply Ev.step
    simp only [natural_trimmed.l0]
    exact Ev.no (by simp) (Ev.pure _)
  | succ n ih =>
    rcases List.eq_nil_or_concat l with rfl | ⟨l', x, rfl⟩
    · cases hn
    · rw [List.concat_eq_append] at hn h ⊢
      have hl : l'.length = n := by simpa using hn
      have e : wrap64 (((l' ++ [x]).length : Int) - 1) = l'.length := by rw [w64 (by simp) (by simp at h ⊢; omega)]; simp
      apply Ev.step
      simp only [natural_trimmed.l0]
      refine Ev.yes (by simp) ?_
      rw [e]
      refine Ev.yes (by omega) ?_
      refine Ev.yes (by simp; omega) ?_
      rw [rd_last]
      by_cases hx : x = 0
      · refine Ev.yes hx ?_
        refine Ev.yes (by simp; omega) ?_
        subst hx
        rw [tr_zero]
        have e2 : (l' ++ [0]).take ((l'.length : Int)).toNat = l' := by simp
        rw [e2]
        exact ih l' (by simp at h; omega) hl
      · refine Ev.no hx ?_
        rw [tr_last l' x hx]
        exact Ev.pure _
theorem trim_ev (l : List Int) (h : l.length ≤ 1000000000000) : Ev (fun k => ancepsref02_trim.f k l) (tr l) := by
  show Ev (fun k => ancepsref02_trim.l0 k l) (tr l)
  generalize hn : l.length = n
  induction n generalizing l with
  | zero =>
    obtain rfl := List.eq_nil_of_length_eq_zero hn
    apply Ev.step
    simp only [ancepsref02_trim.l0]
    exact Ev.no (by simp) (Ev.pure _)
  | succ n ih =>
    rcases List.eq_nil_or_concat l with rfl | ⟨l', x, rfl⟩
    · cases hn
    · rw [List.concat_eq_append] at hn h ⊢
      have hl : l'.length = n := by simpa using hn
      have e : wrap64 (((l' ++ [x]).length : Int) - 1) = l'.length := by rw [w64 (by simp) (by simp at h ⊢; omega)]; simp
      apply Ev.step
      simp only [ancepsref02_trim.l0]
      refine Ev.yes (by simp) ?_
      rw [e]
      refine Ev.yes (by omega) ?_
      refine Ev.yes (by simp; omega) ?_
      rw [rd_last]
      by_cases hx : x = 0
      · refine Ev.yes hx ?_
        refine Ev.yes (by simp; omega) ?_
        subst hx
        rw [tr_zero]
        have e2 : (l' ++ [0]).take ((l'.length : Int)).toNat = l' := by simp
        rw [e2]
        exact ih l' (by simp at h; omega) hl
      · refine Ev.no hx ?_
        rw [tr_last l' x hx]
        exact Ev.pure _
theorem of_ev (l : List Int) (h : l.length ≤ 1000000000000) : Ev (fun k => natural_of.f k l) (tr l) := by
  simp only [natural_of.f]
  refine Ev.bind (trimmed_ev l h) ?_
  by_cases h0 : tr l = []
  · refine Ev.yes (by rw [h0]; rfl) ?_
    rw [h0]
    exact Ev.pure _
  · refine Ev.no (by have := List.length_pos_iff.2 h0; omega) ?_
    exact Ev.pure _
theorem fits_ev (l : List Int) (h : l.length ≤ 1000000000000) : Ev (fun k => natural_fits.f k l) (if l.length > 200 then ([], 3) else (tr l, 0)) := by
  simp only [natural_fits.f]
  by_cases h2 : l.length > 200
  · rw [if_pos h2]
    exact Ev.yes (by omega) (Ev.pure _)
  · rw [if_neg h2]
    refine Ev.no (by omega) ?_
    exact Ev.bind (of_ev l h) (Ev.pure _)
theorem cmp_l0_ev (a b : List Int) : ∀ n : Nat, n ≤ a.length → n ≤ b.length → n ≤ 1000000000000 → Ev (fun k => ancepsref02_cmp.l0 k a b ((n : Int) - 1)) (cmpFrom a b n)
  | 0, _, _, _ => by
    apply Ev.step
    simp only [ancepsref02_cmp.l0]
    exact Ev.no (by simp) (Ev.pure _)
  | n + 1, h1, h2, h3 => by
    apply Ev.step
    simp only [ancepsref02_cmp.l0]
    have e : ((n + 1 : Nat) : Int) - 1 = n := by omega
    rw [e]
    refine Ev.yes (by omega) (Ev.yes (by omega) (Ev.yes (by omega) (Ev.yes (by omega) ?_)))
    rw [cmpFrom]
    by_cases c1 : rd a n < rd b n
    · rw [if_pos c1]
      exact Ev.yes c1 (Ev.pure _)
    · rw [if_neg c1]
      refine Ev.no c1 ?_
      by_cases c2 : rd a n > rd b n
      · rw [if_pos c2]
        exact Ev.yes c2 (Ev.pure _)
      · rw [if_neg c2]
        refine Ev.no c2 ?_
        rw [w64 (by omega) (by omega)]
        exact cmp_l0_ev a b n (by omega) (by omega) (by omega)
theorem cmp_ev (a b : List Int) (h : a.length ≤ 1000000000000) : Ev (fun k => ancepsref02_cmp.f k a b) (cmpL a b) := by
  simp only [ancepsref02_cmp.f]
  unfold cmpL
  by_cases c1 : a.length < b.length
  · rw [if_pos c1]
    exact Ev.yes (by omega) (Ev.pure _)
  · rw [if_neg c1]
    refine Ev.no (by omega) ?_
    by_cases c2 : b.length < a.length
    · rw [if_pos c2]
      exact Ev.yes (by omega) (Ev.pure _)
    · rw [if_neg c2]
      refine Ev.no (by omega) ?_
      rw [w64 (by omega) (by omega)]
      exact cmp_l0_ev a b a.length (Nat.le_refl _) (by omega) h
theorem Cmp_ev (a b : List Int) (h : a.length ≤ 1000000000000) : Ev (fun k => ancepsref02_Cmp.f k a b) (cmpL a b) := by
  simp only [ancepsref02_Cmp.f]
  exact Ev.bind (cmp_ev a b h) (Ev.pure _)
theorem Same_ev (a b : List Int) (h : a.length ≤ 1000000000000) : Ev (fun k => ancepsref02_Same.f k a b) (cmpL a b == 0) := by
  simp only [ancepsref02_Same.f]
  exact Ev.bind (Cmp_ev a b h) (Ev.pure _)
theorem Same_yes (a : List Int) (h : a.length ≤ 1000000000000) : Ev (fun k => ancepsref02_Same.f k a a) true := by
  have := Same_ev a a h
  rwa [cmpL_self] at this
theorem compare_l0_ev (a b : List Int) : ∀ n : Nat, n ≤ a.length → n ≤ b.length → n ≤ 1000000000000 → Ev (fun k => natural_compare.l0 k a b ((n : Int) - 1)) (cmpFrom a b n)
  | 0, _, _, _ => by
    apply Ev.step
    simp only [natural_compare.l0]
    exact Ev.no (by simp) (Ev.pure _)
  | n + 1, h1, h2, h3 => by
    apply Ev.step
    simp only [natural_compare.l0]
    have e : ((n + 1 : Nat) : Int) - 1 = n := by omega
    rw [e]
    refine Ev.yes (by omega) (Ev.yes (by omega) (Ev.yes (by omega) (Ev.yes (by omega) ?_)))
    rw [cmpFrom]
    by_cases c0 : rd a n = rd b n
    · refine Ev.yes c0 ?_
      rw [if_neg (by omega), if_neg (by omega), w64 (by omega) (by omega)]
      exact compare_l0_ev a b n (by omega) (by omega) (by omega)
    · refine Ev.no c0 ?_
      by_cases c1 : rd a n < rd b n
      · refine Ev.yes c1 ?_
        rw [if_pos c1]
        exact Ev.pure _
      · refine Ev.no c1 ?_
        rw [if_neg c1, if_pos (by omega)]
        exact Ev.pure _
theorem compare_ev (a b : List Int) (h : a.length ≤ 1000000000000) : Ev (fun k => natural_compare.f k a b) (cmpL a b) := by
  simp only [natural_compare.f]
  unfold cmpL
  by_cases c0 : a.length = b.length
  · refine Ev.yes (by omega) ?_
    rw [if_neg (show ¬a.length < b.length by omega), if_neg (show ¬b.length < a.length by omega), w64 (by omega) (by omega)]
    exact compare_l0_ev a b a.length (Nat.le_refl _) (by omega) h
  · refine Ev.no (by omega) ?_
    by_cases c1 : a.length < b.length
    · refine Ev.yes (by omega) ?_
      rw [if_pos c1]
      exact Ev.pure _
    · refine Ev.no (by omega) ?_
      rw [if_neg c1, if_pos (show b.length < a.length by omega)]
      exact Ev.pure _
end Go.Proofs.YtlogclmmeikbpaaDoor.Pu

