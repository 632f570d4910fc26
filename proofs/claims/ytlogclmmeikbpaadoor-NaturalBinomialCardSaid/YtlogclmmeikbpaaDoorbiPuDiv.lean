/- What the two divisions answer, as plain laws over the printed functions. No condition. -/
import Derived.Test.YtlogclmmeikbpaaDoorbiPuAdd
import Derived.Test.YtlogclmmeikbpaaDoorbiPx4
import Derived.Test.YtlogclmmeikbpaaDoorbiPx15
namespace Go.Proofs.YtlogclmmeikbpaaDoor.Pu
open Go.RowKit Go.Proofs.YtlogclmmeikbpaaDoorW.PrintWords Go.Proofs.YtlogclmmeikbpaaDoor.Given Go.Proofs.YtlogclmmeikbpaaDoor.P
set_option linter.unusedVariables false

theorem reverse_l0_ev (l : List Int) (hl : l.length ≤ 1000000) : ∀ (m i : Nat) (cur : List Int), l.length - i = m → 2 * i ≤ l.length → cur.length = l.length →
    (∀ p : Nat, p < l.length → rd cur p = if p < i ∨ l.length - 1 - i < p then rd l ((l.length - 1 - p : Nat) : Int) else rd l p) →
    Ev (fun k => slices_Reverse_int_int.l0 k cur (i : Int) (((l.length : Int) - 1) - i)) l.reverse := by
  intro m
  induction m using Nat.strongRecOn with
  | ind m ih =>
    intro i cur hm hi hc hp
    apply Ev.step
    simp only [slices_Reverse_int_int.l0]
    by_cases h : (i : Int) < (l.length : Int) - 1 - i
    · refine Ev.yes h (Ev.yes (by omega) (Ev.yes (by omega) (Ev.yes (by omega) (Ev.yes (by omega) ?_))))
      have ej : ((l.length : Int) - 1 - i) = ((l.length - 1 - i : Nat) : Int) := by omega
      have e1 := hp i (by omega)
      have e2 := hp (l.length - 1 - i) (by omega)
      rw [if_neg (by omega)] at e1 e2
      rw [ej, e1, e2, w64 (by omega) (by omega), w64 (by omega) (by omega), Int.toNat_natCast, Int.toNat_natCast]
      have := ih (l.length - (i + 1)) (by omega) (i + 1) ((cur.set i (rd l ((l.length - 1 - i : Nat) : Int))).set (l.length - 1 - i) (rd l i)) rfl (by omega) (by rw [List.length_set, List.length_set]; exact hc) (fun p hpl => by
        rw [rd_set _ _ _ _ (by rw [List.length_set]; omega), rd_set _ _ _ _ (by omega)]
        by_cases h1 : p = l.length - 1 - i
        · rw [if_pos h1, if_pos (by omega)]
          congr 1
          omega
        · rw [if_neg h1]
          by_cases h2 : p = i
          · rw [if_pos h2, if_pos (by omega), h2]
          · rw [if_neg h2, hp p hpl]
            by_cases h3 : p < i ∨ l.length - 1 - i < p
            · rw [if_pos h3, if_pos (by omega)]
            · rw [if_neg h3, if_neg (by omega)])
      have e5 : (((l.length - 1 - i : Nat) : Int) - 1) = ((l.length : Int) - 1) - ((i + 1 : Nat) : Int) := by omega
      rw [e5]
      exact this
    · refine Ev.no h ?_
      have : cur = l.reverse := by
        refine List.ext_getElem (by rw [List.length_reverse]; exact hc) fun p h1 h2 => ?_
        rw [List.getElem_reverse, ← rd_at cur p h1, ← rd_at l (l.length - 1 - p) (by omega), hp p (by omega)]
        by_cases h3 : p < i ∨ l.length - 1 - i < p
        · rw [if_pos h3]
        · rw [if_neg h3]
          congr 1
          omega
      rw [this]
      exact Ev.pure _
theorem reverse_ev (l : List Int) (hl : l.length ≤ 1000000) : Ev (fun k => slices_Reverse_int_int.f k l) l.reverse := by
  simp only [slices_Reverse_int_int.f]
  rw [w64 (by omega) (by omega)]
  have := reverse_l0_ev l hl _ 0 l rfl (by omega) rfl (fun p hp => by rw [if_neg (by omega)])
  rw [show (l.length : Int) - 1 = (l.length : Int) - 1 - ((0 : Nat) : Int) by omega]
  exact this

theorem dig1 (d : Nat) (h : d < 10000) : Dig [(d : Int)] := Dig.one (by omega) (by omega)
theorem val1 (d : Int) : val [d] = d := by simp [val]
theorem mul1_ev (n d : Nat) (hd : d < 10000) (ln : (digs n).length ≤ 1000000) : Ev (fun k => natural_mul.f k (digs n) [(d : Int)]) (digs (n * d)) := by
  have := mul_ev (digs n) [(d : Int)] (dig_digs n) (dig1 d hd) ln (by simp)
  rw [val_digs, val1, show ((n : Int) * d).toNat = n * d by rw [← Int.natCast_mul]; rfl] at this
  exact this
theorem times1_ev (n d : Nat) (hd : d < 10000) (ln : (digs n).length ≤ 1000000) : Ev (fun k => ancepsref02_times.f k (digs n) [(d : Int)]) (digs (n * d)) := by
  have := times_ev (digs n) [(d : Int)] (dig_digs n) (dig1 d hd) ln (by simp)
  rw [val_digs, val1, show ((n : Int) * d).toNat = n * d by rw [← Int.natCast_mul]; rfl] at this
  exact this
theorem len_of_lt {m n : Nat} (h : m ≤ n) : (digs m).length ≤ (digs n).length := by
  rcases Nat.lt_or_ge (digs n).length (digs m).length with h2 | h2
  · have := len_mono h2
    omega
  · exact h2
theorem digs_app (d R : Nat) (hd : d < 10000) : tr ([(d : Int)] ++ digs R) = digs (d + 10000 * R) := by
  rw [tr_digs ((dig1 d hd).join (dig_digs R))]
  congr 1
  rw [List.singleton_append, val, val_digs]
  omega
theorem sgn_le (m n : Nat) : (sgn m n ≤ 0) ↔ m ≤ n := by
  unfold sgn
  by_cases h1 : (m : Int) < n
  · rw [if_pos h1]; omega
  · by_cases h2 : (m : Int) > n
    · rw [if_neg h1, if_pos h2]; omega
    · rw [if_neg h1, if_neg h2]; omega
theorem mid_ (lo hi : Nat) (h : hi ≤ 9999) (hl : lo < hi) : wrap64 (Int.tdiv (wrap64 (wrap64 ((lo : Int) + hi) + 1)) 2) = (((lo + hi + 1) / 2 : Nat) : Int) := by
  have e : wrap64 (wrap64 ((lo : Int) + hi) + 1) = ((lo + hi + 1 : Nat) : Int) := by
    rw [w64 (n := (lo : Int) + hi) (by omega) (by omega), w64 (by omega) (by omega)]
    omega
  have e2 : Int.tdiv ((lo + hi + 1 : Nat) : Int) 2 = (((lo + hi + 1) / 2 : Nat) : Int) := tdiv_ _ 2
  rw [e, e2, w64 (by omega) (by omega)]
/-- A step of the division from the top. -/
theorem div_step (n hi d : Nat) (hn : 0 < n) : (d + 10000 * hi) / n = 10000 * (hi / n) + (d + 10000 * (hi % n)) / n ∧ (d + 10000 * hi) % n = (d + 10000 * (hi % n)) % n := by
  have e : d + 10000 * hi = (d + 10000 * (hi % n)) + n * (10000 * (hi / n)) := by
    have := Nat.div_add_mod hi n
    generalize hi / n = q at *
    generalize hi % n = r at *
    subst this
    grind
  rw [e, Nat.add_mul_div_left _ _ hn, Nat.add_mul_mod_self_left]
  exact ⟨by omega, rfl⟩
theorem div_small (n hi d : Nat) (hn : 0 < n) (hd : d < 10000) : (d + 10000 * (hi % n)) / n < 10000 := by
  rw [Nat.div_lt_iff_lt_mul hn]
  have := Nat.mod_lt hi hn
  omega
/-- The number at the top of a row, from place i on. -/
def top (a : List Int) (i : Nat) : Nat := (val (a.drop i)).toNat
theorem top_step {a : List Int} (ha : Dig a) {i : Nat} (hi : i < a.length) : top a i = (rd a i).toNat + 10000 * top a (i + 1) := by
  unfold top
  have e0 : a.drop i = a[i] :: a.drop (i + 1) := List.drop_eq_getElem_cons hi
  have hd : Dig (a.drop (i + 1)) := fun x hx => ha x (List.mem_of_mem_drop hx)
  have h1 := val_nonneg hd
  have h2 := ha _ (List.getElem_mem hi)
  rw [e0, val, rd_at a i hi]
  omega
theorem top_len {a : List Int} : top a a.length = 0 := by unfold top; rw [List.drop_length]; rfl
theorem top_zero (a : List Int) : top a 0 = (val a).toNat := rfl
theorem top_digs_len {a : List Int} (ha : Dig a) (i : Nat) : (digs (top a i)).length ≤ a.length := by
  apply digs_le
  have hd : Dig (a.drop i) := fun x hx => ha x (List.mem_of_mem_drop hx)
  have h1 := val_lt hd
  have h2 := val_nonneg hd
  have h3 := pow_mono (show (a.drop i).length ≤ a.length by rw [List.length_drop]; omega)
  unfold top
  omega
theorem divide_ev_ (a : List Int) (ha : Dig a) (la : a.length ≤ 100000) (n : Nat) (hn : 0 < n) (ln : (digs n).length ≤ 100000) : ∀ (i : Nat) (q : List Int), i ≤ a.length → q.length = a.length - i → Dig q.reverse → (val q.reverse = ((top a i / n : Nat) : Int)) →
    Ev (fun k => natural_divide.l0 k a (digs n) q (digs (top a i % n)) ((i : Int) - 1)) (digs ((val a).toNat / n), digs ((val a).toNat % n))
  | 0, q, hi, hq, hd, hv => by
    apply Ev.step
    simp only [natural_divide.l0]
    refine Ev.no (by omega) ?_
    refine Ev.bind (reverse_ev q (by omega)) ?_
    have e : tr q.reverse = digs ((val a).toNat / n) := by rw [tr_digs hd, hv, top_zero]; rfl
    refine Ev.bind (trimmed_ev q.reverse (by rw [List.length_reverse]; omega)) ?_
    rw [e, top_zero]
    exact Ev.pure _
  | i + 1, q, hi, hq, hd, hv => by
    have hil : i < a.length := by omega
    have hx := ha _ (List.getElem_mem hil)
    obtain ⟨d, hdx⟩ := Int.eq_ofNat_of_zero_le hx.1
    have hd4 : d < 10000 := by omega
    have hrd : rd a i = (d : Int) := by rw [rd_at a i hil, hdx]
    have ht := top_step ha hil
    rw [hrd, Int.toNat_natCast] at ht
    obtain ⟨s1, s2⟩ := div_step n (top a (i + 1)) d hn
    have s3 := div_small n (top a (i + 1)) d hn hd4
    rw [← ht] at s1 s2
    have hR : (digs (top a (i + 1) % n)).length ≤ 100000 := Nat.le_trans (len_of_lt (Nat.mod_le _ _)) (Nat.le_trans (top_digs_len ha _) la)
    have hR1 : (digs (d + 10000 * (top a (i + 1) % n))).length ≤ 100001 := by
      rw [← digs_app d _ hd4]
      have := len_tr ([(d : Int)] ++ digs (top a (i + 1) % n))
      rw [List.length_append, List.length_singleton] at this
      omega
    generalize hRR : d + 10000 * (top a (i + 1) % n) = R at *
    apply Ev.step
    simp only [natural_divide.l0]
    have e0 : ((i + 1 : Nat) : Int) - 1 = (i : Int) := by omega
    rw [e0]
    refine Ev.yes (by omega) (Ev.yes (by omega) (Ev.yes (by omega) ?_))
    rw [hrd]
    refine Ev.bind (Ev.pure _) ?_
    refine Ev.yes (by simp only [List.length_singleton]; omega) ?_
    refine Ev.bind (trimmed_ev _ (by rw [List.length_append, List.length_singleton]; omega)) ?_
    rw [digs_app d _ hd4, hRR]
    -- the search
    have hdone : ∀ lo : Nat, lo = R / n → Ev (fun k => natural_divide.l1 k a (digs n) q (digs R) (i : Int) (lo : Int) (lo : Int)) (digs ((val a).toNat / n), digs ((val a).toNat % n)) := by
      intro lo hlo
      have hrec := divide_ev_ a ha la n hn ln i (q ++ [(lo : Int)]) (by omega) (by rw [List.length_append, List.length_singleton]; omega)
        (by rw [List.reverse_append, List.reverse_singleton]; exact (dig1 lo (by omega)).join hd)
        (by rw [List.reverse_append, List.reverse_singleton, List.singleton_append, val, hv, s1, hlo]; omega)
      rw [s2] at hrec
      apply Ev.step
      simp only [natural_divide.l1]
      refine Ev.no (by omega) ?_
      by_cases h0 : lo = 0
      · have hz : R % n = R := by
          have := Nat.div_add_mod R n
          rw [← hlo, h0] at this
          omega
        rw [hz] at hrec
        refine Ev.no (by omega) (Ev.yes (by omega) ?_)
        rw [w64 (by omega) (by omega)]
        exact hrec
      · refine Ev.yes (by omega) ?_
        refine Ev.bind (mul1_ev n lo (by omega) (by omega)) ?_
        have hle : n * lo ≤ R := by rw [hlo]; exact Nat.mul_div_le R n
        refine Ev.bind (sub_ev R (n * lo) hle (by omega)) ?_
        refine Ev.yes (by omega) ?_
        have hm : R - n * lo = R % n := by
          have := Nat.div_add_mod R n
          rw [hlo]
          omega
        rw [hm, w64 (by omega) (by omega)]
        exact hrec
    have hsearch : ∀ (m lo hi : Nat), hi - lo = m → lo ≤ hi → hi ≤ 9999 → n * lo ≤ R → R < n * (hi + 1) → Ev (fun k => natural_divide.l1 k a (digs n) q (digs R) (i : Int) (lo : Int) (hi : Int)) (digs ((val a).toNat / n), digs ((val a).toNat % n)) := by
      intro m
      induction m using Nat.strongRecOn with
      | ind m ih =>
        intro lo hi hm hlh hh h1 h2
        by_cases he : lo = hi
        · subst he
          refine hdone lo ?_
          symm
          apply Nat.div_eq_of_lt_le
          · rw [Nat.mul_comm]; exact h1
          · rw [Nat.mul_comm]; exact h2
        · apply Ev.step
          simp only [natural_divide.l1]
          refine Ev.yes (by omega) ?_
          rw [mid_ lo hi hh (by omega)]
          have hmid : (lo + hi + 1) / 2 < 10000 := by omega
          generalize hM : (lo + hi + 1) / 2 = M at *
          refine Ev.bind (mul1_ev n M hmid (by omega)) ?_
          have hlen := digs_le (n * M) ((digs n).length + 1) (by
            have h3 := len_lt n
            rw [Int.pow_succ, Int.natCast_mul]
            have h4 : (n : Int) * M ≤ n * 10000 := Int.mul_le_mul_of_nonneg_left (by omega) (by omega)
            omega)
          refine Ev.bind (compare_ev _ _ (by omega)) ?_
          rw [cmp_digs]
          by_cases hc : n * M ≤ R
          · refine Ev.yes ((sgn_le _ _).2 hc) ?_
            exact ih (hi - M) (by omega) M hi rfl (by omega) hh hc h2
          · refine Ev.no (fun h => hc ((sgn_le _ _).1 h)) ?_
            have e3 : wrap64 ((M : Int) - 1) = ((M - 1 : Nat) : Int) := by rw [w64 (by omega) (by omega)]; omega
            rw [e3]
            exact ih (M - 1 - lo) (by omega) lo (M - 1) rfl (by omega) (by omega) h1 (by rw [show M - 1 + 1 = M by omega]; omega)
    refine hsearch 9999 0 9999 rfl (by omega) (by omega) (by omega) ?_
    have := (Nat.div_lt_iff_lt_mul hn).1 s3
    rw [Nat.mul_comm]
    exact this
theorem divide_ev (m n : Nat) (hn : 0 < n) (lm : (digs m).length ≤ 100000) (ln : (digs n).length ≤ 100000) : Ev (fun k => natural_divide.f k (digs m) (digs n)) (digs (m / n), digs (m % n)) := by
  simp only [natural_divide.f]
  rw [w64 (by omega) (by omega)]
  have := divide_ev_ (digs m) (dig_digs m) lm n hn ln (digs m).length [] (Nat.le_refl _) (by simp) Dig.nil (by rw [top_len, Nat.zero_div]; rfl)
  rw [top_len, Nat.zero_mod, digs_zero, val_digs] at this
  exact this
theorem refdivide_ev_ (a : List Int) (ha : Dig a) (la : a.length ≤ 100000) (n : Nat) (hn : 0 < n) (ln : (digs n).length ≤ 100000) : ∀ (i : Nat) (out : List Int), i ≤ a.length → out.length = a.length → Dig out → (∀ p : Nat, p < i → rd out p = 0) → (val out = 10000 ^ i * ((top a i / n : Nat) : Int)) →
    Ev (fun k => ancepsref02_divide.l0 k a (digs n) out (digs (top a i % n)) ((i : Int) - 1)) (digs ((val a).toNat / n), digs ((val a).toNat % n))
  | 0, q, hi, hq, hd, hz, hv => by
    apply Ev.step
    simp only [ancepsref02_divide.l0]
    refine Ev.no (by omega) ?_
    have e : tr q = digs ((val a).toNat / n) := by rw [tr_digs hd, hv, top_zero, Int.pow_zero, Int.one_mul]; rfl
    refine Ev.bind (trim_ev q (by omega)) ?_
    rw [e, top_zero]
    exact Ev.pure _
  | i + 1, q, hi, hq, hd, hz, hv => by
    have hil : i < a.length := by omega
    have hx := ha _ (List.getElem_mem hil)
    obtain ⟨d, hdx⟩ := Int.eq_ofNat_of_zero_le hx.1
    have hd4 : d < 10000 := by omega
    have hrd : rd a i = (d : Int) := by rw [rd_at a i hil, hdx]
    have ht := top_step ha hil
    rw [hrd, Int.toNat_natCast] at ht
    obtain ⟨s1, s2⟩ := div_step n (top a (i + 1)) d hn
    have s3 := div_small n (top a (i + 1)) d hn hd4
    rw [← ht] at s1 s2
    have hR : (digs (top a (i + 1) % n)).length ≤ 100000 := Nat.le_trans (len_of_lt (Nat.mod_le _ _)) (Nat.le_trans (top_digs_len ha _) la)
    have hR1 : (digs (d + 10000 * (top a (i + 1) % n))).length ≤ 100001 := by
      rw [← digs_app d _ hd4]
      have := len_tr ([(d : Int)] ++ digs (top a (i + 1) % n))
      rw [List.length_append, List.length_singleton] at this
      omega
    generalize hRR : d + 10000 * (top a (i + 1) % n) = R at *
    apply Ev.step
    simp only [ancepsref02_divide.l0]
    have e0 : ((i + 1 : Nat) : Int) - 1 = (i : Int) := by omega
    rw [e0]
    refine Ev.yes (by omega) (Ev.yes (by omega) (Ev.yes (by omega) ?_))
    rw [hrd]
    refine Ev.bind (Ev.pure _) ?_
    refine Ev.yes (by simp only [List.length_singleton]; omega) ?_
    refine Ev.bind (trim_ev _ (by rw [List.length_append, List.length_singleton]; omega)) ?_
    rw [digs_app d _ hd4, hRR]
    have hdone : ∀ lo : Nat, lo = R / n → Ev (fun k => ancepsref02_divide.l1 k a (digs n) q (digs R) (i : Int) (lo : Int) (lo : Int)) (digs ((val a).toNat / n), digs ((val a).toNat % n)) := by
      intro lo hlo
      have hiq : i < q.length := by omega
      have hrec := refdivide_ev_ a ha la n hn ln i (q.set i (lo : Int)) (by omega) (by rw [List.length_set]; exact hq)
        (hd.set _ (by omega) (by omega)) (fun p hp => by rw [rd_set _ _ _ _ hiq, if_neg (by omega)]; exact hz p (by omega))
        (by
          rw [val_set _ _ _ hiq, hz i (by omega), hv, s1, hlo, Int.pow_succ, Int.natCast_add, Int.natCast_mul]
          generalize ((top a (i + 1) / n : Nat) : Int) = x
          generalize ((R / n : Nat) : Int) = y
          generalize (10000 : Int) ^ i = P
          grind)
      rw [s2] at hrec
      apply Ev.step
      simp only [ancepsref02_divide.l1]
      refine Ev.no (by omega) (Ev.yes (by omega) (Ev.yes (by omega) ?_))
      refine Ev.bind (times1_ev n lo (by omega) (by omega)) ?_
      have hle : n * lo ≤ R := by rw [hlo]; exact Nat.mul_div_le R n
      refine Ev.bind (less_ev R (n * lo) hle (by omega)) ?_
      have hm : R - n * lo = R % n := by
        have := Nat.div_add_mod R n
        rw [hlo]
        omega
      rw [hm, w64 (by omega) (by omega), Int.toNat_natCast]
      exact hrec
    have hsearch : ∀ (m lo hi : Nat), hi - lo = m → lo ≤ hi → hi ≤ 9999 → n * lo ≤ R → R < n * (hi + 1) → Ev (fun k => ancepsref02_divide.l1 k a (digs n) q (digs R) (i : Int) (lo : Int) (hi : Int)) (digs ((val a).toNat / n), digs ((val a).toNat % n)) := by
      intro m
      induction m using Nat.strongRecOn with
      | ind m ih =>
        intro lo hi hm hlh hh h1 h2
        by_cases he : lo = hi
        · subst he
          refine hdone lo ?_
          symm
          apply Nat.div_eq_of_lt_le
          · rw [Nat.mul_comm]; exact h1
          · rw [Nat.mul_comm]; exact h2
        · apply Ev.step
          simp only [ancepsref02_divide.l1]
          refine Ev.yes (by omega) ?_
          rw [mid_ lo hi hh (by omega)]
          have hmid : (lo + hi + 1) / 2 < 10000 := by omega
          generalize hM : (lo + hi + 1) / 2 = M at *
          refine Ev.bind (times1_ev n M hmid (by omega)) ?_
          have hlen := digs_le (n * M) ((digs n).length + 1) (by
            have h3 := len_lt n
            rw [Int.pow_succ, Int.natCast_mul]
            have h4 : (n : Int) * M ≤ n * 10000 := Int.mul_le_mul_of_nonneg_left (by omega) (by omega)
            omega)
          refine Ev.bind (cmp_ev _ _ (by omega)) ?_
          rw [cmp_digs]
          by_cases hc : n * M ≤ R
          · refine Ev.yes ((sgn_le _ _).2 hc) ?_
            exact ih (hi - M) (by omega) M hi rfl (by omega) hh hc h2
          · refine Ev.no (fun h => hc ((sgn_le _ _).1 h)) ?_
            have e3 : wrap64 ((M : Int) - 1) = ((M - 1 : Nat) : Int) := by rw [w64 (by omega) (by omega)]; omega
            rw [e3]
            exact ih (M - 1 - lo) (by omega) lo (M - 1) rfl (by omega) (by omega) h1 (by rw [show M - 1 + 1 = M by omega]; omega)
    refine hsearch 9999 0 9999 rfl (by omega) (by omega) (by omega) ?_
    have := (Nat.div_lt_iff_lt_mul hn).1 s3
    rw [Nat.mul_comm]
    exact this
theorem refdivide_ev (m n : Nat) (hn : 0 < n) (lm : (digs m).length ≤ 100000) (ln : (digs n).length ≤ 100000) : Ev (fun k => ancepsref02_divide.f k (digs m) (digs n)) (digs (m / n), digs (m % n)) := by
  simp only [ancepsref02_divide.f]
  rw [w64 (by omega) (by omega)]
  refine Ev.yes (by omega) (Ev.yes (by omega) ?_)
  have := refdivide_ev_ (digs m) (dig_digs m) lm n hn ln (digs m).length (List.replicate (digs m).length 0) (Nat.le_refl _) (by simp) (dig_zeros _) (fun p _ => rd_zeros _ p) (by rw [top_len, Nat.zero_div, val_zeros]; simp)
  rw [top_len, Nat.zero_mod, digs_zero, val_digs] at this
  exact this
end Go.Proofs.YtlogclmmeikbpaaDoor.Pu

