/- Numbers of subsets, what the two Binomial functions and Add answer, and the law NaturalBinomial, as plain laws over the printed functions. No condition. -/
import Derived.Test.YtlogclmmeikbpaaDoorbiPuDiv
import Derived.Test.YtlogclmmeikbpaaDoorbiPx16
namespace Go.Proofs.YtlogclmmeikbpaaDoor.Pu
open Go.RowKit Go.Proofs.YtlogclmmeikbpaaDoorW.PrintWords Go.Proofs.YtlogclmmeikbpaaDoor.Given Go.Proofs.YtlogclmmeikbpaaDoor.P
set_option linter.unusedVariables false

/-- The number of subsets with k of n elements. -/
def ch : Nat → Nat → Nat
  | _, 0 => 1
  | 0, _ + 1 => 0
  | n + 1, k + 1 => ch n k + ch n (k + 1)
theorem ch_zero (n : Nat) : ch n 0 = 1 := by cases n <;> rfl
theorem ch_big : ∀ (n k : Nat), n < k → ch n k = 0
  | _, 0, h => by omega
  | 0, k + 1, _ => rfl
  | n + 1, k + 1, h => by rw [ch, ch_big n k (by omega), ch_big n (k + 1) (by omega)]
theorem ch_self : ∀ n, ch n n = 1
  | 0 => rfl
  | n + 1 => by rw [ch, ch_self n, ch_big n (n + 1) (by omega)]
/-- The step of a row: (k+1) C(n,k+1) = (n-k) C(n,k). -/
theorem ch_row : ∀ (n k : Nat), k ≤ n → (k + 1) * ch n (k + 1) = (n - k) * ch n k
  | n, 0, _ => by
    rw [ch_zero]
    induction n with
    | zero => rfl
    | succ n ih =>
      rw [ch, ch_zero]
      simp only [Nat.zero_add, Nat.one_mul, Nat.mul_one, Nat.sub_zero] at *
      omega
  | 0, k + 1, h => by omega
  | n + 1, k + 1, h => by
    have h1 := ch_row n k (by omega)
    rw [ch, ch]
    by_cases hk : k + 1 ≤ n
    · have h2 := ch_row n (k + 1) hk
      obtain ⟨d, rfl⟩ : ∃ d, n = k + 1 + d := ⟨n - (k + 1), by omega⟩
      rw [show k + 1 + d - k = d + 1 by omega] at h1
      rw [show k + 1 + d - (k + 1) = d by omega] at h2
      rw [show k + 1 + d + 1 - (k + 1) = d + 1 by omega]
      generalize ch (k + 1 + d) k = A at *
      generalize ch (k + 1 + d) (k + 1) = B at *
      generalize ch (k + 1 + d) (k + 1 + 1) = C at *
      grind
    · have : n = k := by omega
      subst this
      rw [ch_big n (n + 1) (by omega), ch_big n (n + 1 + 1) (by omega)]
      simp
/-- The diagonal's step: (k+1) C(n+1,k+1) = (n+1) C(n,k). -/
theorem ch_diag (n k : Nat) (h : k ≤ n) : (k + 1) * ch (n + 1) (k + 1) = (n + 1) * ch n k := by
  have h1 := ch_row n k h
  rw [ch, Nat.mul_add, h1, ← Nat.add_mul]
  congr 1
  omega
theorem ch_sym : ∀ (n k : Nat), k ≤ n → ch n (n - k) = ch n k
  | 0, k, h => by
    obtain rfl : k = 0 := by omega
    rfl
  | n + 1, 0, _ => by rw [Nat.sub_zero, ch_self, ch_zero]
  | n + 1, k + 1, h => by
    by_cases hk : k = n
    · subst hk
      rw [Nat.sub_self, ch_zero, ch_self]
    · have h1 := ch_sym n k (by omega)
      have h2 := ch_sym n (k + 1) (by omega)
      rw [show n + 1 - (k + 1) = n - (k + 1) + 1 by omega, ch, ch, h2, show n - (k + 1) + 1 = n - k by omega, h1, Nat.add_comm]
theorem ch_le : ∀ (n k : Nat), ch n k ≤ 2 ^ n
  | n, 0 => by rw [ch_zero]; exact Nat.pow_pos (by decide)
  | 0, k + 1 => by simp [ch]
  | n + 1, k + 1 => by
    have h1 := ch_le n k
    have h2 := ch_le n (k + 1)
    rw [ch, Nat.pow_succ]
    omega
theorem two_pow (n m : Nat) (h : n ≤ 13 * m) : 2 ^ n ≤ 10000 ^ m := by
  have h2 : 2 ^ n ≤ 2 ^ (13 * m) := Nat.pow_le_pow_right (by decide) h
  rw [Nat.pow_mul] at h2
  exact Nat.le_trans h2 (Nat.pow_le_pow_left (by decide) m)
theorem ch_len (n k : Nat) (h : n ≤ 401) : (digs (ch n k)).length ≤ 40 := by
  have h1 := ch_le n k
  have h4 : ((ch n k : Nat) : Int) ≤ ((10000 ^ 31 : Nat) : Int) := Int.ofNat_le.2 (Nat.le_trans h1 (two_pow n 31 (by omega)))
  rw [Int.natCast_pow] at h4
  have h5 := pow_pos_ 31
  have h6 := digs_le (ch n k) 32 (by
    rw [Int.pow_succ]
    exact Int.lt_of_le_of_lt h4 (by show (10000 : Int) ^ 31 < 10000 ^ 31 * 10000; omega))
  omega
theorem mul_len1 (n d : Nat) (hd : d < 10000) : (digs (n * d)).length ≤ (digs n).length + 1 := by
  apply digs_le
  have h3 := len_lt n
  rw [Int.pow_succ, Int.natCast_mul]
  have h4 : (n : Int) * d ≤ n * 10000 := Int.mul_le_mul_of_nonneg_left (by omega) (by omega)
  omega
theorem digs_one (i : Nat) (h0 : 0 < i) (h1 : i < 10000) : ([(i : Int)] : List Int) = digs i := by
  rw [digs_pos i (by omega), show i / 10000 = 0 by omega, digs_zero, show i % 10000 = i by omega]
theorem binom_l0_ev (n k : Nat) (hk : k ≤ n) (hn : n ≤ 400) : ∀ (m i : Nat), min k (n - k) + 1 - i = m → 1 ≤ i → i ≤ min k (n - k) + 1 →
    Ev (fun f => natural_Binomial.l0 f (n : Int) (k : Int) (digs (ch n (i - 1))) (i : Int)) (digs (ch n k), 0)
  | 0, i, hm, h1, hi => by
    have hii : i = min k (n - k) + 1 := by omega
    apply Ev.step
    simp only [natural_Binomial.l0]
    have e : mn (k : Int) (wrap64 ((n : Int) - k)) = ((min k (n - k) : Nat) : Int) := by
      rw [w64 (by omega) (by omega)]
      unfold mn
      split <;> omega
    rw [e]
    refine Ev.no (by omega) ?_
    have hv : ch n (i - 1) = ch n k := by
      rw [hii, Nat.add_sub_cancel]
      by_cases h : k ≤ n - k
      · rw [Nat.min_eq_left h]
      · rw [Nat.min_eq_right (by omega), ch_sym n k hk]
    have hl := ch_len n k (by omega)
    rw [hv]
    have := fit_ev (ch n k) (by omega)
    unfold fit at this
    rw [if_neg (by omega)] at this
    exact Ev.bind this (Ev.pure _)
  | m + 1, i, hm, h1, hi => by
    obtain ⟨j, rfl⟩ : ∃ j, i = j + 1 := ⟨i - 1, by omega⟩
    apply Ev.step
    simp only [natural_Binomial.l0]
    have e : mn (k : Int) (wrap64 ((n : Int) - k)) = ((min k (n - k) : Nat) : Int) := by
      rw [w64 (by omega) (by omega)]
      unfold mn
      split <;> omega
    rw [e]
    refine Ev.yes (by omega) ?_
    have e2 : wrap64 (wrap64 ((n : Int) + 1) - ((j + 1 : Nat) : Int)) = ((n - j : Nat) : Int) := by
      rw [w64 (n := (n : Int) + 1) (by omega) (by omega), w64 (by omega) (by omega)]
      omega
    have hl := ch_len n j (by omega)
    rw [e2, Nat.add_sub_cancel]
    refine Ev.bind (mul1_ev _ (n - j) (by omega) (by omega)) ?_
    have hl2 := mul_len1 (ch n j) (n - j) (by omega)
    rw [digs_one (j + 1) (by omega) (by omega)]
    refine Ev.bind (divide_ev _ (j + 1) (by omega) (by omega) (by rw [← digs_one (j + 1) (by omega) (by omega)]; simp)) ?_
    have hq : ch n j * (n - j) / (j + 1) = ch n (j + 1) := by
      have := ch_row n j (by omega)
      rw [Nat.mul_comm, ← this, Nat.mul_div_cancel_left _ (by omega)]
    rw [hq, w64 (by omega) (by omega)]
    exact binom_l0_ev n k hk hn m (j + 1 + 1) (by omega) (by omega) (by omega)
theorem refbinom_l0_ev (n k : Nat) (hk : k ≤ n) (hn : n ≤ 400) : ∀ (m i : Nat), k + 1 - i = m → 1 ≤ i → i ≤ k + 1 →
    Ev (fun f => ancepsref02_Binomial.l0 f (n : Int) (k : Int) (digs (ch (n - k + (i - 1)) (i - 1))) (i : Int)) (digs (ch n k), 0)
  | 0, i, hm, h1, hi => by
    have hii : i = k + 1 := by omega
    apply Ev.step
    simp only [ancepsref02_Binomial.l0]
    refine Ev.no (by omega) ?_
    rw [hii, Nat.add_sub_cancel, show n - k + k = n by omega]
    exact Ev.pure _
  | m + 1, i, hm, h1, hi => by
    obtain ⟨j, rfl⟩ : ∃ j, i = j + 1 := ⟨i - 1, by omega⟩
    apply Ev.step
    simp only [ancepsref02_Binomial.l0]
    refine Ev.yes (by omega) ?_
    have e2 : wrap64 (wrap64 ((n : Int) - k) + ((j + 1 : Nat) : Int)) = ((n - k + j + 1 : Nat) : Int) := by
      rw [w64 (n := (n : Int) - k) (by omega) (by omega), w64 (by omega) (by omega)]
      omega
    have hl := ch_len (n - k + j) j (by omega)
    rw [e2, Nat.add_sub_cancel]
    refine Ev.bind (times1_ev _ (n - k + j + 1) (by omega) (by omega)) ?_
    have hl2 := mul_len1 (ch (n - k + j) j) (n - k + j + 1) (by omega)
    rw [digs_one (j + 1) (by omega) (by omega)]
    refine Ev.bind (refdivide_ev _ (j + 1) (by omega) (by omega) (by rw [← digs_one (j + 1) (by omega) (by omega)]; simp)) ?_
    have hq : ch (n - k + j) j * (n - k + j + 1) / (j + 1) = ch (n - k + (j + 1)) (j + 1) := by
      have := ch_diag (n - k + j) j (by omega)
      rw [Nat.mul_comm, ← this, Nat.mul_div_cancel_left _ (by omega)]
      rfl
    rw [hq, w64 (by omega) (by omega)]
    have := refbinom_l0_ev n k hk hn m (j + 1 + 1) (by omega) (by omega) (by omega)
    rw [Nat.add_sub_cancel] at this
    exact this
/-- The answer of Binomial. -/
def binR (n k : Int) : List Int × Int := if n < 0 ∨ n > 400 ∨ k < 0 ∨ k > n then ([], 6) else (digs (ch n.toNat k.toNat), 0)
theorem Binomial_ev (n k : Int) : Ev (fun f => natural_Binomial.f f n k) (binR n k) := by
  have hbad : ∀ b : Bool, b = true → Ev (fun f => natural_Binomial.j0 f n k b) ([], 6) := fun b hb => by
    apply Ev.step
    simp only [natural_Binomial.j0]
    exact Ev.yes hb (Ev.pure _)
  simp only [natural_Binomial.f]
  unfold binR
  by_cases h1 : n < 0
  · rw [if_pos (.inl h1)]
    exact Ev.yes h1 (hbad _ rfl)
  refine Ev.no h1 ?_
  by_cases h2 : n > 400
  · rw [if_pos (.inr (.inl h2))]
    exact Ev.yes h2 (hbad _ rfl)
  refine Ev.no h2 ?_
  by_cases h3 : k < 0
  · rw [if_pos (.inr (.inr (.inl h3)))]
    exact Ev.yes h3 (hbad _ rfl)
  refine Ev.no h3 ?_
  by_cases h4 : k > n
  · rw [if_pos (.inr (.inr (.inr h4)))]
    exact hbad _ (decide_eq_true h4)
  rw [if_neg (by omega), decide_eq_false h4]
  obtain ⟨n, rfl⟩ := Int.eq_ofNat_of_zero_le (by omega : 0 ≤ n)
  obtain ⟨k, rfl⟩ := Int.eq_ofNat_of_zero_le (by omega : 0 ≤ k)
  apply Ev.step
  simp only [natural_Binomial.j0]
  refine Ev.no (by simp) ?_
  have := binom_l0_ev n k (by omega) (by omega) _ 1 rfl (by omega) (by omega)
  rw [Nat.sub_self, ch_zero, ← digs_one 1 (by omega) (by omega)] at this
  exact this
theorem refBinomial_ev (n k : Int) : Ev (fun f => ancepsref02_Binomial.f f n k) (binR n k) := by
  have hbad : ∀ b : Bool, b = true → Ev (fun f => ancepsref02_Binomial.j0 f n k b) ([], 6) := fun b hb => by
    apply Ev.step
    simp only [ancepsref02_Binomial.j0]
    exact Ev.yes hb (Ev.pure _)
  simp only [ancepsref02_Binomial.f]
  unfold binR
  by_cases h1 : n < 0
  · rw [if_pos (.inl h1)]
    exact Ev.yes h1 (hbad _ rfl)
  refine Ev.no h1 ?_
  by_cases h2 : n > 400
  · rw [if_pos (.inr (.inl h2))]
    exact Ev.yes h2 (hbad _ rfl)
  refine Ev.no h2 ?_
  by_cases h3 : k < 0
  · rw [if_pos (.inr (.inr (.inl h3)))]
    exact Ev.yes h3 (hbad _ rfl)
  refine Ev.no h3 ?_
  by_cases h4 : k > n
  · rw [if_pos (.inr (.inr (.inr h4)))]
    exact hbad _ (decide_eq_true h4)
  rw [if_neg (by omega), decide_eq_false h4]
  obtain ⟨n, rfl⟩ := Int.eq_ofNat_of_zero_le (by omega : 0 ≤ n)
  obtain ⟨k, rfl⟩ := Int.eq_ofNat_of_zero_le (by omega : 0 ≤ k)
  apply Ev.step
  simp only [ancepsref02_Binomial.j0]
  refine Ev.no (by simp) ?_
  have := refbinom_l0_ev n k (by omega) (by omega) _ 1 rfl (by omega) (by omega)
  rw [Nat.sub_self, ch_zero, ← digs_one 1 (by omega) (by omega)] at this
  exact this
theorem valid_digs (n : Nat) (h : (digs n).length ≤ 200) : validB (digs n) = true := by
  have := valid_tr (dig_digs n) (by rw [tr_digs_id]; exact h)
  rwa [tr_digs_id] at this
theorem valid_is {l : List Int} (h : validB l = true) : l = digs (val l).toNat := by
  obtain ⟨h1, h2, h3⟩ := validB_parts h
  exact norm_digs h2 h3
/-- The answer of Add. -/
def addR (a b : List Int) : List Int × Int := if validB a = true ∧ validB b = true then fit ((val a).toNat + (val b).toNat) else ([], 1)
theorem Add_ev (a b : List Int) : Ev (fun k => natural_Add.f k a b) (addR a b) := by
  have hj : ∀ c : Bool, c = true → Ev (fun k => natural_Add.j0 k c a b) ([], 1) := fun c hc => by
    apply Ev.step
    simp only [natural_Add.j0]
    exact Ev.yes hc (Ev.pure _)
  simp only [natural_Add.f]
  refine Ev.bind (Ev.of_eq (show natural_Valid.f a = some (validB a) from rfl)) ?_
  unfold addR
  by_cases ha : validB a = true
  · refine Ev.yes ha ?_
    refine Ev.bind (Ev.of_eq (show natural_Valid.f b = some (validB b) from rfl)) ?_
    by_cases hb : validB b = true
    · rw [if_pos ⟨ha, hb⟩, hb]
      have la := (validB_parts ha).1
      have lb := (validB_parts hb).1
      have ea := valid_is ha
      have eb := valid_is hb
      generalize (val a).toNat = m at *
      generalize (val b).toNat = n at *
      subst ea
      subst eb
      have hl : (digs (m + n)).length ≤ 201 := by
        apply digs_le
        have h1 := len_lt m
        have h2 := len_lt n
        have h3 := pow_mono la
        have h4 := pow_mono lb
        rw [Int.pow_succ]
        omega
      apply Ev.step
      simp only [natural_Add.j0]
      refine Ev.no (by simp) ?_
      exact Ev.bind (add_ev m n (by omega) (by omega)) (Ev.bind (fit_ev _ (by omega)) (Ev.pure _))
    · rw [if_neg (fun h => hb h.2)]
      exact hj _ (by simpa using hb)
  · rw [if_neg (fun h => ha h.1)]
    refine Ev.no ha ?_
    exact hj _ rfl
theorem addR_digs (m n : Nat) (hm : (digs m).length ≤ 200) (hn : (digs n).length ≤ 200) : addR (digs m) (digs n) = fit (m + n) := by
  unfold addR
  rw [if_pos ⟨valid_digs m hm, valid_digs n hn⟩, val_digs, val_digs]
  rfl
/-- The law. -/
theorem lawBinomial (n k : Int) (hn : -9223372036854775808 ≤ n ∧ n ≤ 9223372036854775807) (hk : -9223372036854775808 ≤ k ∧ k ≤ 9223372036854775807) : Ev (fun f => ancepslaw02_NaturalBinomial.f f n k) true := by
  simp only [ancepslaw02_NaturalBinomial.f]
  refine Ev.bind awake_ev (Ev.yes rfl ?_)
  refine Ev.bind (Binomial_ev n k) (Ev.bind (refBinomial_ev n k) (Ev.yes rfl ?_))
  by_cases h : n < 0 ∨ n > 400 ∨ k < 0 ∨ k > n
  · have e : binR n k = ([], 6) := by unfold binR; rw [if_pos h]
    rw [e]
    refine Ev.bind (Same_yes _ (by simp)) (Ev.yes rfl (Ev.no (by decide) ?_))
    exact Ev.bind (Same_yes _ (by simp)) (Ev.pure _)
  · obtain ⟨n, rfl⟩ := Int.eq_ofNat_of_zero_le (by omega : 0 ≤ n)
    obtain ⟨k, rfl⟩ := Int.eq_ofNat_of_zero_le (by omega : 0 ≤ k)
    have hkn : k ≤ n := by omega
    have e : binR n k = (digs (ch n k), 0) := by unfold binR; rw [if_neg h]; rfl
    have hl := ch_len n k (by omega)
    rw [e]
    refine Ev.bind (Same_yes (digs (ch n k)) (by omega)) (Ev.yes rfl (Ev.yes rfl ?_))
    have e1 : wrap64 ((n : Int) - k) = ((n - k : Nat) : Int) := by rw [w64 (by omega) (by omega)]; omega
    have e2 : binR n ((n - k : Nat) : Int) = (digs (ch n k), 0) := by
      unfold binR
      rw [if_neg (by omega), Int.toNat_natCast, Int.toNat_natCast, ch_sym n k hkn]
    rw [e1]
    have hB := Binomial_ev n ((n - k : Nat) : Int)
    rw [e2] at hB
    refine Ev.bind hB (Ev.yes rfl ?_)
    refine Ev.bind (Same_yes (digs (ch n k)) (by omega)) (Ev.yes rfl ?_)
    have hj : Ev (fun f => ancepslaw02_NaturalBinomial.j0 f (n : Int) (k : Int) 0 true (digs (ch n k)) (digs (ch n k))) true := by
      apply Ev.step
      simp only [ancepslaw02_NaturalBinomial.j0]
      exact Ev.yes trivial (Ev.yes trivial (Ev.bind (Same_yes (digs (ch n k)) (by omega)) (Ev.pure _)))
    by_cases hk0 : k = 0
    · exact Ev.yes (by omega) hj
    · refine Ev.no (by omega) ?_
      by_cases hkn2 : k = n
      · have : ((k : Int) == (n : Int)) = true := by simp [hkn2]
        rw [this]
        exact hj
      · have : ((k : Int) == (n : Int)) = false := by
          rw [beq_eq_false_iff_ne]
          omega
        rw [this]
        apply Ev.step
        simp only [ancepslaw02_NaturalBinomial.j0]
        refine Ev.no (by simp) ?_
        have w1 : wrap64 ((n : Int) - 1) = ((n - 1 : Nat) : Int) := by rw [w64 (by omega) (by omega)]; omega
        have w2 : wrap64 ((k : Int) - 1) = ((k - 1 : Nat) : Int) := by rw [w64 (by omega) (by omega)]; omega
        rw [w1, w2]
        have b1 : binR ((n - 1 : Nat) : Int) ((k - 1 : Nat) : Int) = (digs (ch (n - 1) (k - 1)), 0) := by
          unfold binR
          rw [if_neg (by omega), Int.toNat_natCast, Int.toNat_natCast]
        have b2 : binR ((n - 1 : Nat) : Int) (k : Int) = (digs (ch (n - 1) k), 0) := by
          unfold binR
          rw [if_neg (by omega), Int.toNat_natCast, Int.toNat_natCast]
        have h1 := Binomial_ev ((n - 1 : Nat) : Int) ((k - 1 : Nat) : Int)
        have h2 := Binomial_ev ((n - 1 : Nat) : Int) (k : Int)
        rw [b1] at h1
        rw [b2] at h2
        have l1 := ch_len (n - 1) (k - 1) (by omega)
        have l2 := ch_len (n - 1) k (by omega)
        have hs : ch (n - 1) (k - 1) + ch (n - 1) k = ch n k := by
          obtain ⟨n', rfl⟩ : ∃ n', n = n' + 1 := ⟨n - 1, by omega⟩
          obtain ⟨k', rfl⟩ : ∃ k', k = k' + 1 := ⟨k - 1, by omega⟩
          rfl
        have h3 := Add_ev (digs (ch (n - 1) (k - 1))) (digs (ch (n - 1) k))
        rw [addR_digs _ _ (by omega) (by omega), hs] at h3
        have hf : fit (ch n k) = (digs (ch n k), 0) := by unfold fit; rw [if_neg (by omega)]
        rw [hf] at h3
        refine Ev.bind h1 (Ev.bind h2 (Ev.bind h3 (Ev.yes rfl (Ev.yes rfl (Ev.yes rfl ?_)))))
        exact Ev.bind (Same_yes (digs (ch n k)) (by omega)) (Ev.pure _)
end Go.Proofs.YtlogclmmeikbpaaDoor.Pu

