/- What Of, Valid, Cmp and the laws' guards answer, as plain laws over the printed functions; the law NaturalValid. No condition. -/
import Derived.Test.YtlogclmmeikbpaaDoorsuPuParse
import Derived.Test.YtlogclmmeikbpaaDoorsuPx0
import Derived.Test.YtlogclmmeikbpaaDoorsuGiven
import Derived.Test.YtlogclmmeikbpaaDoorsuPx2
import Derived.Test.YtlogclmmeikbpaaDoorsuPx5
import Derived.Test.YtlogclmmeikbpaaDoorsuPx7
import Derived.Test.YtlogclmmeikbpaaDoorsuPx10
namespace Go.Proofs.YtlogclmmeikbpaaDoor.Pu
open Go.RowKit Go.Proofs.YtlogclmmeikbpaaDoorW.PrintWords Go.Proofs.YtlogclmmeikbpaaDoor.Given Go.Proofs.YtlogclmmeikbpaaDoor.P
set_option linter.unusedVariables false

theorem tdiv_ (n : Nat) (m : Nat) : Int.tdiv (n : Int) (m : Int) = ((n / m : Nat) : Int) := by
  rw [Int.tdiv_eq_ediv_of_nonneg (by omega)]
  exact (Int.natCast_ediv n m).symm
theorem tmod_ (n : Nat) (m : Nat) : Int.tmod (n : Int) (m : Int) = ((n % m : Nat) : Int) := by
  rw [Int.tmod_eq_emod_of_nonneg (by omega)]
  exact (Int.natCast_emod n m).symm
theorem Few_l0_ev (x : List S24) (most : Int) : ∀ (m i : Nat) (n : Int), x.length - i = m → i ≤ x.length → x.length ≤ 1000 → 0 ≤ n → n + ((x.drop i).map fun y => (y.f0.length : Int)).sum ≤ 9000000000000000000 →
    Ev (fun k => ancepsref02_Few.l0 k x most n (i : Int)) (decide (n + ((x.drop i).map fun y => (y.f0.length : Int)).sum ≤ most))
  | 0, i, n, hm, hi, hx, h0, h9 => by
    apply Ev.step
    simp only [ancepsref02_Few.l0]
    refine Ev.no (by omega) ?_
    have e : x.drop i = [] := List.drop_eq_nil_of_le (by omega)
    rw [e]
    simp only [List.map_nil, List.sum_nil, Int.add_zero]
    exact Ev.pure _
  | m + 1, i, n, hm, hi, hx, h0, h9 => by
    apply Ev.step
    simp only [ancepsref02_Few.l0]
    have hil : i < x.length := by omega
    have e0 : x.drop i = x[i] :: x.drop (i + 1) := List.drop_eq_getElem_cons hil
    rw [e0, List.map_cons, List.sum_cons] at h9
    have hs : 0 ≤ ((x.drop (i + 1)).map fun y => (y.f0.length : Int)).sum := by
      generalize x.drop (i + 1) = l
      induction l with
      | nil => simp
      | cons a l ih => rw [List.map_cons, List.sum_cons]; omega
    have er : rd_T24 x (i : Int) = x[i] := by unfold rd_T24; simp [List.getD_eq_getElem?_getD, hil]
    refine Ev.yes (by omega) (Ev.yes (by omega) ?_)
    rw [er, w64 (n := (n + (x[i].f0.length : Int))) (by omega) (by omega), w64 (by omega) (by omega), e0, List.map_cons, List.sum_cons, ← Int.add_assoc]
    exact Few_l0_ev x most m (i + 1) (n + (x[i].f0.length : Int)) (by omega) (by omega) hx (by omega) (by omega)
theorem Few2_ev (a b : List Int) (most : Int) (ha : a.length ≤ 1000000000000000) (hb : b.length ≤ 1000000000000000) : Ev (fun k => ancepsref02_Few.f k [⟨a⟩, ⟨b⟩] most) (decide ((a.length : Int) + b.length ≤ most)) := by
  have := Few_l0_ev [⟨a⟩, ⟨b⟩] most 2 0 0 rfl (by simp) (by simp) (by omega) (by simp; omega)
  simp only [List.drop_zero, List.map_cons, List.map_nil, List.sum_cons, List.sum_nil, Int.add_zero, Int.zero_add] at this
  exact this
theorem few2_ev (a b : List Int) (ha : a.length ≤ 1000000000000000) (hb : b.length ≤ 1000000000000000) : Ev (fun k => ancepslaw02_few.f k [⟨a⟩, ⟨b⟩]) (decide ((a.length : Int) + b.length ≤ 420)) := by
  simp only [ancepslaw02_few.f]
  exact Ev.bind (Few2_ev a b 420 ha hb) (Ev.pure _)
theorem Valid_l0_ev (l : List Int) (hl : l.length ≤ 200) : ∀ (m i : Nat), l.length - i = m → i ≤ l.length → Ev (fun k => ancepsref02_Valid.l0 k (l.length : Int) (i : Int) l) ((l.drop i).all fun d => decide (0 ≤ d) && decide (d < 10000))
  | 0, i, hm, hi => by
    apply Ev.step
    simp only [ancepsref02_Valid.l0]
    refine Ev.no (by omega) ?_
    have e : l.drop i = [] := List.drop_eq_nil_of_le (by omega)
    rw [e, List.all_nil]
    exact Ev.pure _
  | m + 1, i, hm, hi => by
    apply Ev.step
    simp only [ancepsref02_Valid.l0]
    have hil : i < l.length := by omega
    have e0 : l.drop i = l[i] :: l.drop (i + 1) := List.drop_eq_getElem_cons hil
    refine Ev.yes (by omega) (Ev.yes (by omega) (Ev.yes (by omega) ?_))
    rw [rd_at l i hil, e0, List.all_cons]
    by_cases c1 : l[i] < 0
    · refine Ev.yes c1 ?_
      rw [decide_eq_false (show ¬ 0 ≤ l[i] by omega), Bool.false_and, Bool.false_and]
      exact Ev.pure _
    · refine Ev.no c1 ?_
      by_cases c2 : l[i] ≥ 10000
      · refine Ev.yes c2 ?_
        rw [decide_eq_false (show ¬ l[i] < 10000 by omega), Bool.and_false, Bool.false_and]
        exact Ev.pure _
      · refine Ev.no c2 ?_
        rw [decide_eq_true (show 0 ≤ l[i] by omega), decide_eq_true (show l[i] < 10000 by omega), Bool.and_self, Bool.true_and, w64 (by omega) (by omega)]
        exact Valid_l0_ev l hl m (i + 1) (by omega) (by omega)
theorem refValid_ev (l : List Int) (h : l.length ≤ 1000000000000000) : Ev (fun k => ancepsref02_Valid.f k l) (validB l) := by
  have hbad : validB l = false → Ev (fun k => ancepsref02_Valid.j0 k (l.length : Int) true l) (validB l) := fun e => by
    rw [e]
    apply Ev.step
    simp only [ancepsref02_Valid.j0]
    exact Ev.yes trivial (Ev.pure _)
  have hok : l.length ≤ 200 → (l.getLast? == some 0) = false → Ev (fun k => ancepsref02_Valid.j0 k (l.length : Int) false l) (validB l) := fun h2 h3 => by
    apply Ev.step
    simp only [ancepsref02_Valid.j0]
    refine Ev.no (by simp) ?_
    have := Valid_l0_ev l h2 l.length 0 rfl (Nat.zero_le _)
    unfold validB
    rw [decide_eq_true h2, h3]
    simpa using this
  simp only [ancepsref02_Valid.f]
  by_cases h2 : l.length > 200
  · refine Ev.yes (by omega) ?_
    exact hbad (by unfold validB; rw [decide_eq_false (by omega)]; rfl)
  · refine Ev.no (by omega) ?_
    by_cases h0 : l.length = 0
    · refine Ev.no (by omega) ?_
      have : l = [] := List.eq_nil_of_length_eq_zero h0
      refine hok (by omega) ?_
      rw [this]
      rfl
    · refine Ev.yes (by omega) ?_
      rw [w64 (by omega) (by omega)]
      refine Ev.yes (by omega) (Ev.yes (by omega) ?_)
      rcases List.eq_nil_or_concat l with rfl | ⟨l', x, rfl⟩
      · simp at h0
      · rw [List.concat_eq_append] at *
        have e : ((l' ++ [x]).length : Int) - 1 = l'.length := by simp
        rw [e, rd_last]
        by_cases hx : x = 0
        · have e2 : (x == 0) = true := by simp [hx]
          rw [e2]
          refine hbad ?_
          unfold validB
          rw [hx]
          simp
        · have e2 : (x == 0) = false := by simp [hx]
          rw [e2]
          refine hok (by omega) ?_
          simp [hx]
theorem nCmp_ev (a b : List Int) (h : a.length ≤ 1000000000000) : Ev (fun k => natural_Cmp.f k a b) (cmpL a b) := by
  simp only [natural_Cmp.f]
  exact Ev.bind (compare_ev a b h) (Ev.pure _)
end Go.Proofs.YtlogclmmeikbpaaDoor.Pu

