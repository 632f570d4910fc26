/- What the two products answer, as plain laws over the printed functions. No condition. -/
import Derived.Test.YtlogclmmeikbpaaDoorriPuValid
namespace Go.Proofs.YtlogclmmeikbpaaDoor.Pu
open Go.RowKit Go.Proofs.YtlogclmmeikbpaaDoorW.PrintWords Go.Proofs.YtlogclmmeikbpaaDoor.Given Go.Proofs.YtlogclmmeikbpaaDoor.P
set_option linter.unusedVariables false

theorem val_set (l : List Int) : ∀ (p : Nat) (v : Int) (h : p < l.length), val (l.set p v) = val l + (v - rd l p) * 10000 ^ p := by
  induction l with
  | nil => intro p v h; cases h
  | cons d l ih =>
    intro p v h
    cases p with
    | zero => simp [val, rd]; omega
    | succ p =>
      have := ih p v (by simpa using h)
      have e : rd (d :: l) ((p + 1 : Nat) : Int) = rd l (p : Int) := by unfold rd; simp
      rw [List.set_cons_succ, val, this, val, e, Int.pow_succ]
      grind
theorem rd_set (l : List Int) (p q : Nat) (v : Int) (h : p < l.length) : rd (l.set p v) (q : Int) = if q = p then v else rd l q := by
  unfold rd
  simp only [List.getD_eq_getElem?_getD, Int.toNat_natCast]
  by_cases e : q = p
  · subst e
    rw [if_pos rfl]
    simp [h]
  · rw [if_neg e, List.getElem?_set_ne (fun x => e x.symm)]
theorem dig_rd {l : List Int} (h : Dig l) (p : Nat) : 0 ≤ rd l p ∧ rd l p < 10000 := by
  unfold rd
  rw [List.getD_eq_getElem?_getD, Int.toNat_natCast]
  by_cases hp : p < l.length
  · rw [List.getElem?_eq_getElem hp]
    exact h _ (List.getElem_mem hp)
  · rw [List.getElem?_eq_none (by omega)]
    decide
theorem Dig.set {l : List Int} (h : Dig l) (p : Nat) {v : Int} (h0 : 0 ≤ v) (h1 : v < 10000) : Dig (l.set p v) := fun x hx => by
  rcases List.mem_or_eq_of_mem_set hx with h2 | h2
  · exact h x h2
  · rw [h2]; exact ⟨h0, h1⟩
theorem dig_zeros (n : Nat) : Dig (List.replicate n 0) := fun x hx => by
  rw [List.eq_of_mem_replicate hx]
  decide
theorem val_zeros (n : Nat) : val (List.replicate n 0) = 0 := by
  induction n with
  | zero => rfl
  | succ n ih => rw [List.replicate_succ, val, ih]; rfl
theorem rd_zeros (n p : Nat) : rd (List.replicate n 0) (p : Int) = 0 := by
  unfold rd
  rw [List.getD_eq_getElem?_getD, Int.toNat_natCast]
  by_cases hp : p < n
  · rw [List.getElem?_replicate, if_pos hp]; rfl
  · rw [List.getElem?_replicate, if_neg hp]; rfl
theorem mul_le_ {x y : Int} (hx : 0 ≤ x) (hx1 : x < 10000) (hy : 0 ≤ y) (hy1 : y < 10000) : 0 ≤ x * y ∧ x * y ≤ 99980001 := by
  refine ⟨Int.mul_nonneg hx hy, ?_⟩
  have h1 : x * y ≤ 9999 * y := Int.mul_le_mul_of_nonneg_right (by omega) hy
  omega
/-- One place of a product. -/
theorem place {c o x y : Int} (hc : 0 ≤ c) (hc1 : c < 10000) (ho : 0 ≤ o) (ho1 : o < 10000) (hx : 0 ≤ x) (hx1 : x < 10000) (hy : 0 ≤ y) (hy1 : y < 10000) :
    ∃ q r : Int, 0 ≤ q ∧ q < 10000 ∧ 0 ≤ r ∧ r < 10000 ∧ c + (o + x * y) = 10000 * q + r ∧ wrap64 (c + wrap64 (o + wrap64 (x * y))) = c + (o + x * y) ∧ wrap64 (wrap64 (o + wrap64 (x * y)) + c) = c + (o + x * y) ∧ Int.tmod (c + (o + x * y)) 10000 = r ∧ wrap64 (Int.tdiv (c + (o + x * y)) 10000) = q := by
  have h := mul_le_ hx hx1 hy hy1
  generalize x * y = z at h
  obtain ⟨n, hn⟩ := Int.eq_ofNat_of_zero_le (show 0 ≤ c + (o + z) by omega)
  have e1 : Int.tmod (n : Int) 10000 = ((n % 10000 : Nat) : Int) := tmod_ n 10000
  have e2 : Int.tdiv (n : Int) 10000 = ((n / 10000 : Nat) : Int) := tdiv_ n 10000
  refine ⟨((n / 10000 : Nat) : Int), ((n % 10000 : Nat) : Int), by omega, by omega, by omega, by omega, by omega, ?_, ?_, ?_, ?_⟩
  · rw [w64 (n := z) (by omega) (by omega), w64 (n := o + z) (by omega) (by omega), w64 (by omega) (by omega)]
  · rw [w64 (n := z) (by omega) (by omega), w64 (n := o + z) (by omega) (by omega), w64 (by omega) (by omega)]
    omega
  · rw [hn, e1]
  · rw [hn, e2, w64 (by omega) (by omega)]
/-- What stands between two places of the inner round. -/
structure Inner (a b out0 out : List Int) (i j : Nat) (c : Int) : Prop where
  len : out.length = out0.length
  dig : Dig out
  c0 : 0 ≤ c
  c1 : c < 10000
  top : ∀ p : Nat, i + b.length ≤ p → rd out p = 0
  eq : val out + c * 10000 ^ (i + j) = val out0 + rd a i * val (b.take j) * 10000 ^ i
theorem Inner.start {a b out0 : List Int} {i : Nat} (hd : Dig out0) (ht : ∀ p : Nat, i + b.length ≤ p → rd out0 p = 0) : Inner a b out0 out0 i 0 0 :=
  ⟨rfl, hd, by decide, by decide, ht, by simp [val]⟩
theorem Inner.next {a b out0 out : List Int} {i j : Nat} {c q r : Int} (h : Inner a b out0 out i j c) (hj : j < b.length) (hl : i + j < out.length) (hq0 : 0 ≤ q) (hq1 : q < 10000) (hr0 : 0 ≤ r) (hr1 : r < 10000)
    (he : c + (rd out ((i + j : Nat) : Int) + rd a i * rd b j) = 10000 * q + r) : Inner a b out0 (out.set (i + j) r) i (j + 1) q := by
  refine ⟨by rw [List.length_set]; exact h.len, h.dig.set _ hr0 hr1, hq0, hq1, fun p hp => ?_, ?_⟩
  · rw [rd_set _ _ _ _ hl, if_neg (by omega)]
    exact h.top p hp
  · have h1 := h.eq
    rw [val_set _ _ _ hl, take_succ_val hj, show i + (j + 1) = i + j + 1 by omega, Int.pow_succ]
    have e : (10000 : Int) ^ (i + j) = 10000 ^ i * 10000 ^ j := Int.pow_add ..
    rw [e] at h1 ⊢
    clear h
    generalize rd out ((i + j : Nat) : Int) = o at *
    generalize rd a (i : Int) = x at *
    generalize rd b (j : Int) = y at *
    generalize (10000 : Int) ^ i = P at *
    generalize (10000 : Int) ^ j = Q at *
    generalize val (b.take j) = V at *
    generalize val out = U at *
    grind
/-- What stands between two outer rounds. -/
structure Outer (a b out : List Int) (n i : Nat) : Prop where
  len : out.length = n
  dig : Dig out
  top : ∀ p : Nat, i + b.length ≤ p → rd out p = 0
  eq : val out = val (a.take i) * val b
theorem Outer.start (a b : List Int) (n : Nat) : Outer a b (List.replicate n 0) n 0 := ⟨List.length_replicate, dig_zeros n, fun p _ => rd_zeros n p, by rw [val_zeros]; simp [val]⟩
theorem Outer.next {a b out0 out : List Int} {n i : Nat} {c : Int} (h0 : Outer a b out0 n i) (h : Inner a b out0 out i b.length c) (hi : i < a.length) (hl : i + b.length < n) : Outer a b (out.set (i + b.length) c) n (i + 1) := by
  have hl' : i + b.length < out.length := by rw [h.len, h0.len]; exact hl
  refine ⟨by rw [List.length_set, h.len]; exact h0.len, h.dig.set _ h.c0 h.c1, fun p hp => ?_, ?_⟩
  · rw [rd_set _ _ _ _ hl', if_neg (by omega)]
    exact h.top p (by omega)
  · have h1 := h.eq
    have h2 := h0.eq
    have h3 := h.top (i + b.length) (Nat.le_refl _)
    rw [List.take_length] at h1
    rw [val_set _ _ _ hl', take_succ_val hi, h3]
    have e : (10000 : Int) ^ (i + b.length) = 10000 ^ i * 10000 ^ b.length := Int.pow_add ..
    rw [e] at h1 ⊢
    clear h h0
    generalize rd a (i : Int) = x at *
    generalize (10000 : Int) ^ i = P at *
    generalize (10000 : Int) ^ b.length = Q at *
    generalize val (a.take i) = A at *
    generalize val b = B at *
    grind
theorem Outer.done {a b out : List Int} {n : Nat} (h : Outer a b out n a.length) : tr out = digs (val a * val b).toNat := by
  rw [tr_digs h.dig, h.eq, List.take_length]
theorem mul_l1_ev (a b : List Int) (ha : Dig a) (hb : Dig b) (la : a.length ≤ 1000000) (lb : b.length ≤ 1000000) (i : Nat) (hi : i < a.length) (out0 : List Int) (h0 : Outer a b out0 (a.length + b.length) i) (r : List Int) :
    ∀ (m j : Nat) (out : List Int) (c : Int), b.length - j = m → j ≤ b.length → Inner a b out0 out i j c →
    (∀ out', Outer a b out' (a.length + b.length) (i + 1) → Ev (fun k => natural_mul.l0 k b out' a (a.length : Int) ((i + 1 : Nat) : Int)) r) →
    Ev (fun k => natural_mul.l1 k b out (i : Int) (rd a i) c a (a.length : Int) (i : Int) b (b.length : Int) (j : Int)) r
  | 0, j, out, c, hm, hj, h, hr => by
    have hjb : j = b.length := by omega
    subst hjb
    have hlen : out.length = a.length + b.length := by rw [h.len, h0.len]
    have e1 : (i : Int) + (b.length : Int) = ((i + b.length : Nat) : Int) := by omega
    have hc0 := h.c0
    have hc1 := h.c1
    apply Ev.step
    simp only [natural_mul.l1]
    refine Ev.no (by omega) ?_
    rw [e1, w64 (n := ((i + b.length : Nat) : Int)) (by omega) (by omega)]
    refine Ev.yes (by omega) (Ev.yes (by omega) ?_)
    have h3 := h.top (i + b.length) (Nat.le_refl _)
    rw [h3, Int.zero_add, w64 (n := c) (by omega) (by omega), w64 (by omega) (by omega), Int.toNat_natCast]
    exact hr _ (h0.next h hi (by omega))
  | m + 1, j, out, c, hm, hj, h, hr => by
    have hlen : out.length = a.length + b.length := by rw [h.len, h0.len]
    have e1 : (i : Int) + (j : Int) = ((i + j : Nat) : Int) := by omega
    have hx := dig_rd ha i
    have hy := dig_rd hb j
    have ho := dig_rd h.dig (i + j)
    obtain ⟨q, r', q0, q1, r0, r1, he, ew, _, em, ed⟩ := place h.c0 h.c1 ho.1 ho.2 hx.1 hx.2 hy.1 hy.2
    apply Ev.step
    simp only [natural_mul.l1]
    refine Ev.yes (by omega) (Ev.yes (by omega) (Ev.yes (by omega) ?_))
    rw [e1, w64 (n := ((i + j : Nat) : Int)) (by omega) (by omega)]
    refine Ev.yes (by omega) (Ev.yes (by omega) ?_)
    rw [ew, em, ed, Int.toNat_natCast, w64 (by omega) (by omega)]
    exact mul_l1_ev a b ha hb la lb i hi out0 h0 r m (j + 1) _ q (by omega) (by omega) (h.next (by omega) (by omega) q0 q1 r0 r1 he) hr
theorem mul_l0_ev (a b : List Int) (ha : Dig a) (hb : Dig b) (la : a.length ≤ 1000000) (lb : b.length ≤ 1000000) : ∀ (m i : Nat) (out : List Int), a.length - i = m → i ≤ a.length → Outer a b out (a.length + b.length) i →
    Ev (fun k => natural_mul.l0 k b out a (a.length : Int) (i : Int)) (digs (val a * val b).toNat)
  | 0, i, out, hm, hi, h => by
    have hia : i = a.length := by omega
    subst hia
    apply Ev.step
    simp only [natural_mul.l0]
    refine Ev.no (by omega) ?_
    rw [← h.done]
    have := h.len
    exact Ev.bind (trimmed_ev out (by omega)) (Ev.pure _)
  | m + 1, i, out, hm, hi, h => by
    apply Ev.step
    simp only [natural_mul.l0]
    refine Ev.yes (by omega) (Ev.yes (by omega) (Ev.yes (by omega) ?_))
    exact mul_l1_ev a b ha hb la lb i (by omega) out h _ b.length 0 out 0 rfl (Nat.zero_le _) (Inner.start h.dig h.top) fun out' h' => mul_l0_ev a b ha hb la lb m (i + 1) out' (by omega) (by omega) h'
theorem mul_ev (a b : List Int) (ha : Dig a) (hb : Dig b) (la : a.length ≤ 1000000) (lb : b.length ≤ 1000000) : Ev (fun k => natural_mul.f k a b) (digs (val a * val b).toNat) := by
  simp only [natural_mul.f]
  have e : wrap64 ((a.length : Int) + (b.length : Int)) = ((a.length + b.length : Nat) : Int) := by rw [w64 (by omega) (by omega)]; omega
  rw [e, Int.toNat_natCast]
  refine Ev.yes (by omega) (Ev.yes (by omega) ?_)
  exact mul_l0_ev a b ha hb la lb a.length 0 _ rfl (Nat.zero_le _) (Outer.start a b _)

/-- A result, or that it is too large. -/
def fit (n : Nat) : List Int × Int := if (digs n).length > 200 then ([], 3) else (digs n, 0)
theorem validB_parts {l : List Int} (h : validB l = true) : l.length ≤ 200 ∧ Dig l ∧ l.getLast? ≠ some 0 := by
  unfold validB at h
  simp only [Bool.and_eq_true, decide_eq_true_eq, Bool.not_eq_true', beq_eq_false_iff_ne, List.all_eq_true] at h
  exact ⟨h.1.1, h.2, h.1.2⟩
theorem fit_ev (n : Nat) (h : (digs n).length ≤ 1000000000000) : Ev (fun k => natural_fits.f k (digs n)) (fit n) := by
  have := fits_ev (digs n) h
  rwa [tr_digs_id] at this
theorem digs_le (n m : Nat) (h : (n : Int) < 10000 ^ m) : (digs n).length ≤ m := by
  by_cases h0 : n = 0
  · subst h0; rw [digs_zero]; simp
  · have h1 := len_le n h0
    rcases Nat.lt_or_ge m (digs n).length with h2 | h2
    · have := pow_mono (show m ≤ (digs n).length - 1 by omega)
      omega
    · exact h2
theorem prod_len {a b : List Int} (ha : Dig a) (hb : Dig b) : (digs (val a * val b).toNat).length ≤ a.length + b.length := by
  apply digs_le
  have h1 := val_nonneg ha
  have h2 := val_nonneg hb
  have h3 := val_lt ha
  have h4 := val_lt hb
  have h5 := Int.mul_nonneg h1 h2
  have h6 : val a * val b ≤ val a * 10000 ^ b.length := Int.mul_le_mul_of_nonneg_left (by omega) h1
  have h7 : val a * 10000 ^ b.length < 10000 ^ a.length * 10000 ^ b.length := Int.mul_lt_mul_of_pos_right h3 (pow_pos_ _)
  rw [Int.pow_add, Int.toNat_of_nonneg h5]
  omega
def mulR (a b : List Int) : List Int × Int := if validB a = true ∧ validB b = true then fit (val a * val b).toNat else ([], 1)
theorem Mul_ev (a b : List Int) : Ev (fun k => natural_Mul.f k a b) (mulR a b) := by
  have hj : ∀ c : Bool, c = true → Ev (fun k => natural_Mul.j0 k c a b) ([], 1) := fun c hc => by
    apply Ev.step
    simp only [natural_Mul.j0]
    exact Ev.yes hc (Ev.pure _)
  simp only [natural_Mul.f]
  refine Ev.bind (Ev.of_eq (show natural_Valid.f a = some (validB a) from rfl)) ?_
  unfold mulR
  by_cases ha : validB a = true
  · refine Ev.yes ha ?_
    refine Ev.bind (Ev.of_eq (show natural_Valid.f b = some (validB b) from rfl)) ?_
    by_cases hb : validB b = true
    · rw [if_pos ⟨ha, hb⟩, hb]
      obtain ⟨a1, a2, a3⟩ := validB_parts ha
      obtain ⟨b1, b2, b3⟩ := validB_parts hb
      have := prod_len a2 b2
      apply Ev.step
      simp only [natural_Mul.j0]
      refine Ev.no (by simp) ?_
      refine Ev.bind (mul_ev a b a2 b2 (by omega) (by omega)) (Ev.bind (fit_ev _ (by omega)) (Ev.pure _))
    · rw [if_neg (fun h => hb h.2)]
      exact hj _ (by simpa using hb)
  · rw [if_neg (fun h => ha h.1)]
    refine Ev.no ha ?_
    exact hj _ rfl
end Go.Proofs.YtlogclmmeikbpaaDoor.Pu

