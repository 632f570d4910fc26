/- What the two products answer, as plain laws over the printed functions. No condition. -/
import Derived.Test.YtlogclmmeikbpaaDoorsuPuValid
namespace Go.Proofs.YtlogclmmeikbpaaDoor.Pu
open Go.RowKit Go.Proofs.YtlogclmmeikbpaaDoorW.PrintWords Go.Proofs.YtlogclmmeikbpaaDoor.Given Go.Proofs.YtlogclmmeikbpaaDoor.P
set_option linter.unusedVariables false

theorem val_set (l : List Int) : ∀ (p : Nat) (v : Int) (h : p < l.length), val (l.set p v) = val l + (v - rd l p) * 10000 ^ p := by
  induction l with
  | nil => intro p v h; cases h
  | cons d l ih =>
    intro p v h
    cases p with
    | zero => simp [val, rd]; omega
    | succ p =>
      have := ih p v (by simpa using h)
      have e : rd (d :: l) ((p + 1 : Nat) : Int) = rd l (p : Int) := by unfold rd; simp
      rw [List.set_cons_succ, val, this, val, e, Int.pow_succ]
      grind
theorem rd_set (l : List Int) (p q : Nat) (v : Int) (h : p < l.length) : rd (l.set p v) (q : Int) = if q = p then v else rd l q := by
  unfold rd
  simp only [List.getD_eq_getElem?_getD, Int.toNat_natCast]
  by_cases e : q = p
  · subst e
    rw [if_pos rfl]
    simp [h]
  · rw [if_neg e, List.getElem?_set_ne (fun x => e x.symm)]
theorem dig_rd {l : List Int} (h : Dig l) (p : Nat) : 0 ≤ rd l p ∧ rd l p < 10000 := by
  unfold rd
  rw [List.getD_eq_getElem?_getD, Int.toNat_natCast]
  by_cases hp : p < l.length
  · rw [List.getElem?_eq_getElem hp]
    exact h _ (List.getElem_mem hp)
  · rw [List.getElem?_eq_none (by omega)]
    decide
theorem Dig.set {l : List Int} (h : Dig l) (p : Nat) {v : Int} (h0 : 0 ≤ v) (h1 : v < 10000) : Dig (l.set p v) := fun x hx => by
  rcases List.mem_or_eq_of_mem_set hx with h2 | h2
  · exact h x h2
  · rw [h2]; exact ⟨h0, h1⟩
theorem mul_le_ {x y : Int} (hx : 0 ≤ x) (hx1 : x < 10000) (hy : 0 ≤ y) (hy1 : y < 10000) : 0 ≤ x * y ∧ x * y ≤ 99980001 := by
  refine ⟨Int.mul_nonneg hx hy, ?_⟩
  have h1 : x * y ≤ 9999 * y := Int.mul_le_mul_of_nonneg_right (by omega) hy
  omega
/-- One place of a product. -/
theorem place {c o x y : Int} (hc : 0 ≤ c) (hc1 : c < 10000) (ho : 0 ≤ o) (ho1 : o < 10000) (hx : 0 ≤ x) (hx1 : x < 10000) (hy : 0 ≤ y) (hy1 : y < 10000) :
    ∃ q r : Int, 0 ≤ q ∧ q < 10000 ∧ 0 ≤ r ∧ r < 10000 ∧ c + (o + x * y) = 10000 * q + r ∧ wrap64 (c + wrap64 (o + wrap64 (x * y))) = c + (o + x * y) ∧ wrap64 (wrap64 (o + wrap64 (x * y)) + c) = c + (o + x * y) ∧ Int.tmod (c + (o + x * y)) 10000 = r ∧ wrap64 (Int.tdiv (c + (o + x * y)) 10000) = q := by
  have h := mul_le_ hx hx1 hy hy1
  generalize x * y = z at h
  obtain ⟨n, hn⟩ := Int.eq_ofNat_of_zero_le (show 0 ≤ c + (o + z) by omega)
  have e1 : Int.tmod (n : Int) 10000 = ((n % 10000 : Nat) : Int) := tmod_ n 10000
  have e2 : Int.tdiv (n : Int) 10000 = ((n / 10000 : Nat) : Int) := tdiv_ n 10000
  refine ⟨((n / 10000 : Nat) : Int), ((n % 10000 : Nat) : Int), by omega, by omega, by omega, by omega, by omega, ?_, ?_, ?_, ?_⟩
  · rw [w64 (n := z) (by omega) (by omega), w64 (n := o + z) (by omega) (by omega), w64 (by omega) (by omega)]
  · rw [w64 (n := z) (by omega) (by omega), w64 (n := o + z) (by omega) (by omega), w64 (by omega) (by omega)]
    omega
  · rw [hn, e1]
  · rw [hn, e2, w64 (by omega) (by omega)]
theorem digit_eq (l : List Int) (i : Nat) : ancepsref02_digit.f l (i : Int) = some (rd l i) := by
  unfold ancepsref02_digit.f
  by_cases h : i < l.length
  · rw [if_pos (by omega), if_pos (by omega)]
  · rw [if_neg (by omega)]
    unfold rd
    rw [List.getD_eq_getElem?_getD, Int.toNat_natCast, List.getElem?_eq_none (by omega)]
    rfl
/-- A result, or that it is too large. -/
def fit (n : Nat) : List Int × Int := if (digs n).length > 200 then ([], 3) else (digs n, 0)
theorem validB_parts {l : List Int} (h : validB l = true) : l.length ≤ 200 ∧ Dig l ∧ l.getLast? ≠ some 0 := by
  unfold validB at h
  simp only [Bool.and_eq_true, decide_eq_true_eq, Bool.not_eq_true', beq_eq_false_iff_ne, List.all_eq_true] at h
  exact ⟨h.1.1, h.2, h.1.2⟩
theorem fit_ev (n : Nat) (h : (digs n).length ≤ 1000000000000) : Ev (fun k => natural_fits.f k (digs n)) (fit n) := by
  have := fits_ev (digs n) h
  rwa [tr_digs_id] at this
theorem within_eq (n : Nat) : ancepsref02_within.f (digs n) = some (fit n) := by
  unfold ancepsref02_within.f fit
  by_cases h : (digs n).length > 200
  · rw [if_pos (by omega), if_pos h]
  · rw [if_neg (by omega), if_neg h]
theorem digs_le (n m : Nat) (h : (n : Int) < 10000 ^ m) : (digs n).length ≤ m := by
  by_cases h0 : n = 0
  · subst h0; rw [digs_zero]; simp
  · have h1 := len_le n h0
    rcases Nat.lt_or_ge m (digs n).length with h2 | h2
    · have := pow_mono (show m ≤ (digs n).length - 1 by omega)
      omega
    · exact h2
theorem fit_len (n : Nat) : (fit n).1.length ≤ 200 := by
  unfold fit
  split
  · simp
  · simpa using Nat.le_of_not_gt (by assumption)
end Go.Proofs.YtlogclmmeikbpaaDoor.Pu

