/- Plain laws over numbers in the base 10000 and over answers that come with enough rounds. No program is walked here, and no condition stands. -/
import Derived.Test.YtlogclmmeikbpaaDoorriPx0
namespace Go.Proofs.YtlogclmmeikbpaaDoor.Pu
open Go.RowKit Go.Proofs.YtlogclmmeikbpaaDoorW.PrintWords
set_option linter.unusedVariables false

/-- With enough rounds the answer is r. -/
def Ev {α : Type} (f : Nat → Option α) (r : α) : Prop := ∃ K, ∀ k, K ≤ k → f k = some r
namespace Ev
variable {α β : Type} {f g : Nat → Option α} {r : α}
theorem pure (r : α) : Ev (fun _ => some r) r := ⟨0, fun _ _ => rfl⟩
theorem of_eq {x : Option α} (h : x = some r) : Ev (fun _ => x) r := ⟨0, fun _ _ => h⟩
theorem step (h : Ev (fun k => f (k + 1)) r) : Ev f r := by
  obtain ⟨K, h⟩ := h
  refine ⟨K + 1, fun k hk => ?_⟩
  obtain ⟨j, rfl⟩ : ∃ j, k = j + 1 := ⟨k - 1, by omega⟩
  exact h j (by omega)
theorem bind {a : β} {f : Nat → Option β} {g : Nat → β → Option α} (h1 : Ev f a) (h2 : Ev (fun k => g k a) r) : Ev (fun k => (f k).bind (g k)) r := by
  obtain ⟨K1, h1⟩ := h1
  obtain ⟨K2, h2⟩ := h2
  refine ⟨K1 + K2, fun k hk => ?_⟩
  show (f k).bind (g k) = _
  rw [h1 k (by omega)]
  exact h2 k (by omega)
theorem yes {c : Prop} [Decidable c] (hc : c) (h : Ev f r) : Ev (fun k => if c then f k else g k) r := by
  obtain ⟨K, h⟩ := h
  exact ⟨K, fun k hk => by show (if c then f k else g k) = _; rw [if_pos hc]; exact h k hk⟩
theorem no {c : Prop} [Decidable c] (hc : ¬c) (h : Ev g r) : Ev (fun k => if c then f k else g k) r := by
  obtain ⟨K, h⟩ := h
  exact ⟨K, fun k hk => by show (if c then f k else g k) = _; rw [if_neg hc]; exact h k hk⟩
theorem get (h : Ev f r) : ∃ k, f k = some r := by
  obtain ⟨K, h⟩ := h
  exact ⟨K, h K (Nat.le_refl _)⟩
theorem mono {f : Nat → Option α} (k : Nat) (h : f k = some r) (hm : ∀ k, LeO (f k) (f (k + 1))) : Ev f r := by
  refine ⟨k, fun j hj => ?_⟩
  obtain ⟨d, rfl⟩ : ∃ d, j = k + d := ⟨j - k, by omega⟩
  clear hj
  induction d with
  | zero => exact h
  | succ d ih => exact hm _ r ih
end Ev
theorem w64 {n : Int} (h1 : -9223372036854775808 ≤ n) (h2 : n ≤ 9223372036854775807) : wrap64 n = n := by
  unfold wrap64
  omega
theorem rd_at (l : List Int) (i : Nat) (h : i < l.length) : rd l (i : Int) = l[i] := by
  unfold rd
  simp [List.getD_eq_getElem?_getD, h]
theorem rd_last (l : List Int) (x : Int) : rd (l ++ [x]) (l.length : Int) = x := by
  unfold rd
  simp [List.getD_eq_getElem?_getD]

/-- The number of a row of digits, the least one first. -/
def val : List Int → Int
  | [] => 0
  | d :: l => d + 10000 * val l
def Dig (l : List Int) : Prop := ∀ d ∈ l, 0 ≤ d ∧ d < 10000
/-- A row without its zeros at the top. -/
def tr : List Int → List Int
  | [] => []
  | d :: l => if tr l = [] then (if d = 0 then [] else [d]) else d :: tr l
/-- A number's digits. -/
def digs (n : Nat) : List Int := if h : n = 0 then [] else ((n % 10000 : Nat) : Int) :: digs (n / 10000)
termination_by n
decreasing_by omega
theorem digs_zero : digs 0 = [] := by unfold digs; simp
theorem digs_pos (n : Nat) (h : n ≠ 0) : digs n = ((n % 10000 : Nat) : Int) :: digs (n / 10000) := by rw [digs]; simp [h]
theorem digs_nil (n : Nat) : digs n = [] ↔ n = 0 := by
  by_cases h : n = 0
  · subst h; simp [digs_zero]
  · rw [digs_pos n h]; simp [h]
theorem val_digs (n : Nat) : val (digs n) = n := by
  induction n using Nat.strongRecOn with
  | ind n ih =>
    by_cases h : n = 0
    · subst h; rw [digs_zero]; rfl
    · rw [digs_pos n h, val, ih (n / 10000) (by omega)]
      omega
theorem dig_digs (n : Nat) : Dig (digs n) := by
  induction n using Nat.strongRecOn with
  | ind n ih =>
    by_cases h : n = 0
    · subst h; rw [digs_zero]; intro d hd; cases hd
    · rw [digs_pos n h]
      intro d hd
      rcases List.mem_cons.1 hd with rfl | hd
      · omega
      · exact ih (n / 10000) (by omega) d hd
theorem Dig.tail {d : Int} {l : List Int} (h : Dig (d :: l)) : Dig l := fun x hx => h x (List.mem_cons_of_mem _ hx)
theorem Dig.head {d : Int} {l : List Int} (h : Dig (d :: l)) : 0 ≤ d ∧ d < 10000 := h d (by simp)
theorem Dig.append {a b : List Int} (h : Dig (a ++ b)) : Dig a ∧ Dig b := ⟨fun x hx => h x (by simp [hx]), fun x hx => h x (by simp [hx])⟩
theorem Dig.join {a b : List Int} (ha : Dig a) (hb : Dig b) : Dig (a ++ b) := fun x hx => by
  rcases List.mem_append.1 hx with h | h
  · exact ha x h
  · exact hb x h
theorem Dig.one {d : Int} (h0 : 0 ≤ d) (h1 : d < 10000) : Dig [d] := fun x hx => by
  rw [List.mem_singleton.1 hx]
  exact ⟨h0, h1⟩
theorem Dig.nil : Dig [] := fun x hx => by cases hx
theorem Dig.take {l : List Int} (h : Dig l) (n : Nat) : Dig (l.take n) := fun x hx => h x (List.mem_of_mem_take hx)
theorem val_nonneg {l : List Int} (h : Dig l) : 0 ≤ val l := by
  induction l with
  | nil => exact Int.le_refl _
  | cons d l ih => have := ih h.tail; have := h.head; rw [val]; omega
theorem tr_digs {l : List Int} (h : Dig l) : tr l = digs (val l).toNat := by
  induction l with
  | nil => rw [tr, val]; exact digs_zero.symm
  | cons d l ih =>
    have h0 := val_nonneg h.tail
    have hd := h.head
    rw [tr, val, ih h.tail]
    by_cases hz : val l = 0
    · rw [hz]
      by_cases hd0 : d = 0
      · subst hd0; simp [digs_zero]
      · have e : (d + 10000 * 0).toNat = d.toNat := by omega
        have e2 : (0 : Int).toNat = 0 := rfl
        rw [if_pos (by rw [e2]; exact digs_zero), if_neg hd0, e, digs_pos _ (by omega), show d.toNat / 10000 = 0 by omega, digs_zero]
        congr 1
        omega
    · rw [if_neg (by rw [digs_nil]; omega), digs_pos (d + 10000 * val l).toNat (by omega)]
      congr 1
      · omega
      · congr 1
        omega
theorem tr_digs_id (n : Nat) : tr (digs n) = digs n := by
  rw [tr_digs (dig_digs n), val_digs]
  rfl
theorem tr_zero (l : List Int) : tr (l ++ [0]) = tr l := by
  induction l with
  | nil => simp [tr]
  | cons d l ih => rw [List.cons_append, tr, ih, tr]
theorem tr_last (l : List Int) (x : Int) (h : x ≠ 0) : tr (l ++ [x]) = l ++ [x] := by
  induction l with
  | nil => simp [tr, h]
  | cons d l ih => rw [List.cons_append, tr, ih, if_neg (by simp)]
theorem norm_digs {l : List Int} (h : Dig l) (hl : l.getLast? ≠ some 0) : l = digs (val l).toNat := by
  rw [← tr_digs h]
  rcases List.eq_nil_or_concat l with rfl | ⟨l', x, rfl⟩
  · rfl
  · rw [List.concat_eq_append] at hl ⊢
    rw [tr_last l' x (by simpa using hl)]
theorem val_append (a b : List Int) : val (a ++ b) = val a + 10000 ^ a.length * val b := by
  induction a with
  | nil => simp [val]
  | cons d a ih =>
    rw [List.cons_append, val, ih, val, List.length_cons]
    have e : (10000 : Int) ^ (a.length + 1) = 10000 * 10000 ^ a.length := by rw [Int.pow_succ, Int.mul_comm]
    rw [e, Int.mul_add, Int.mul_assoc]
    omega
theorem val_lt {l : List Int} (h : Dig l) : val l < 10000 ^ l.length := by
  induction l with
  | nil => decide
  | cons d l ih =>
    have := ih h.tail
    have := h.head
    have e : (10000 : Int) ^ (l.length + 1) = 10000 * 10000 ^ l.length := by rw [Int.pow_succ, Int.mul_comm]
    rw [val, List.length_cons, e]
    omega
theorem len_tr (l : List Int) : (tr l).length ≤ l.length := by
  induction l with
  | nil => exact Nat.le_refl _
  | cons d l ih =>
    rw [tr]
    split
    · split <;> simp
    · simpa using ih
/-- The comparison of the first n digits, from the top. -/
def cmpFrom (a b : List Int) : Nat → Int
  | 0 => 0
  | n + 1 => if rd a n < rd b n then -1 else if rd a n > rd b n then 1 else cmpFrom a b n
def cmpL (a b : List Int) : Int := if a.length < b.length then -1 else if b.length < a.length then 1 else cmpFrom a b a.length
theorem cmpFrom_self (a : List Int) (n : Nat) : cmpFrom a a n = 0 := by
  induction n with
  | zero => rfl
  | succ n ih => rw [cmpFrom, if_neg (by omega), if_neg (by omega), ih]
theorem cmpL_self (a : List Int) : cmpL a a = 0 := by
  unfold cmpL
  rw [if_neg (by omega), if_neg (by omega), cmpFrom_self]
theorem take_succ_val {a : List Int} {n : Nat} (h : n < a.length) : val (a.take (n + 1)) = val (a.take n) + 10000 ^ n * rd a n := by
  have e : a.take (n + 1) = a.take n ++ [a[n]] := by simp
  rw [e, val_append, rd_at a n h]
  simp [val, Nat.min_eq_left (Nat.le_of_lt h)]
/-- The comparison's sign. -/
def sgn (x y : Int) : Int := if x < y then -1 else if x > y then 1 else 0
theorem mul_gap {x y p q B : Int} (hB : 0 < B) (hp : 0 ≤ p) (hp2 : p < B) (hq : 0 ≤ q) (hq2 : q < B) (h : x < y) : p + B * x < q + B * y := by
  have h1 : B * (x + 1) ≤ B * y := Int.mul_le_mul_of_nonneg_left (by omega) (by omega)
  rw [Int.mul_add, Int.mul_one] at h1
  omega
theorem pow_pos_ (n : Nat) : (0 : Int) < 10000 ^ n := Int.pow_pos (by decide)
theorem cmpFrom_sgn {a b : List Int} (ha : Dig a) (hb : Dig b) : ∀ n, n ≤ a.length → n ≤ b.length → cmpFrom a b n = sgn (val (a.take n)) (val (b.take n))
  | 0, _, _ => by simp [cmpFrom, sgn]
  | n + 1, h1, h2 => by
    have ih := cmpFrom_sgn ha hb n (by omega) (by omega)
    have pa := val_nonneg (ha.take n)
    have pb := val_nonneg (hb.take n)
    have qa := val_lt (ha.take n)
    have qb := val_lt (hb.take n)
    rw [List.length_take, Nat.min_eq_left (by omega)] at qa qb
    have hp := pow_pos_ n
    rw [cmpFrom, ih, take_succ_val h1, take_succ_val h2]
    by_cases c1 : rd a n < rd b n
    · have := mul_gap hp pa qa pb qb c1
      rw [if_pos c1, sgn, if_pos this]
    · by_cases c2 : rd b n < rd a n
      · have := mul_gap hp pb qb pa qa c2
        rw [if_neg c1, if_pos c2, sgn, if_neg (by omega), if_pos this]
      · have e : rd a n = rd b n := by omega
        rw [if_neg c1, if_neg c2, e]
        unfold sgn
        by_cases d1 : val (a.take n) < val (b.take n)
        · rw [if_pos d1, if_pos (by omega)]
        · by_cases d2 : val (a.take n) > val (b.take n)
          · rw [if_neg d1, if_pos d2, if_neg (by omega), if_pos (by omega)]
          · rw [if_neg d1, if_neg d2, if_neg (by omega), if_neg (by omega)]
theorem len_lt (n : Nat) : (n : Int) < 10000 ^ (digs n).length := by
  have := val_lt (dig_digs n)
  rwa [val_digs] at this
theorem len_le (n : Nat) (h : n ≠ 0) : (10000 : Int) ^ ((digs n).length - 1) ≤ n := by
  induction n using Nat.strongRecOn with
  | ind n ih =>
    rw [digs_pos n h, List.length_cons]
    by_cases h2 : n / 10000 = 0
    · rw [h2, digs_zero]; simp; omega
    · have := ih (n / 10000) (by omega) h2
      have hl : 0 < (digs (n / 10000)).length := by
        rw [List.length_pos_iff]
        intro e
        exact h2 ((digs_nil _).1 e)
      have e : (digs (n / 10000)).length + 1 - 1 = (digs (n / 10000)).length - 1 + 1 := by omega
      rw [e, Int.pow_succ]
      omega
theorem pow_mono {m n : Nat} (h : m ≤ n) : (10000 : Int) ^ m ≤ 10000 ^ n := by
  obtain ⟨d, rfl⟩ : ∃ d, n = m + d := ⟨n - m, by omega⟩
  rw [Int.pow_add]
  have := pow_pos_ m
  have := pow_pos_ d
  have h3 : (10000 : Int) ^ m * 1 ≤ 10000 ^ m * 10000 ^ d := Int.mul_le_mul_of_nonneg_left (by omega) (by omega)
  omega
theorem len_mono {m n : Nat} (h : (digs m).length < (digs n).length) : m < n := by
  have hn : n ≠ 0 := fun e => by subst e; rw [digs_zero] at h; simp at h
  have h1 := len_lt m
  have h2 := len_le n hn
  have h3 := pow_mono (show (digs m).length ≤ (digs n).length - 1 by omega)
  omega
theorem cmp_digs (m n : Nat) : cmpL (digs m) (digs n) = sgn m n := by
  unfold cmpL
  by_cases h1 : (digs m).length < (digs n).length
  · have := len_mono h1
    rw [if_pos h1, sgn, if_pos (by omega)]
  · by_cases h2 : (digs n).length < (digs m).length
    · have := len_mono h2
      rw [if_neg h1, if_pos h2, sgn, if_neg (by omega), if_pos (by omega)]
    · rw [if_neg h1, if_neg h2, cmpFrom_sgn (dig_digs m) (dig_digs n) _ (Nat.le_refl _) (by omega), List.take_length,
        show (digs m).length = (digs n).length by omega, List.take_length, val_digs, val_digs]
end Go.Proofs.YtlogclmmeikbpaaDoor.Pu

