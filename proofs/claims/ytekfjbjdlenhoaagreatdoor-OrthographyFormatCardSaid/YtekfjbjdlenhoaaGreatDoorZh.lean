/- Contracts over whole values, and what they lean on: part h. Each holds under the conditions that it states. -/
import Derived.Test.YtekfjbjdlenhoaaGreatDoorZg
import Derived.Laws.Small
import Derived.Lib.AtoiAll
import Derived.Lib.ItoaNum
import Derived.Lib.SlTrimSet
import Derived.Lib.Bytealg
import Derived.Shelf.GgClosure.StringsRunes
import Derived.Laws.RangeAny
set_option linter.unusedVariables false
set_option linter.unusedSimpArgs false

namespace Go.VN
open Go.RowKit
set_option linter.unusedVariables false
def rd (xs : List Int) (i : Int) : Int := xs.getD i.toNat 0
def pad4 (d : Int) : List UInt8 := ([48, 48, 48, 48] : List UInt8).drop (Lib.itoa d).length ++ Lib.itoa d
def fmtL (l : List Int) : List UInt8 := match l.reverse with
  | [] => [48]
  | d :: r => Lib.itoa d ++ r.flatMap pad4
def validB (l : List Int) : Bool := decide (l.length ≤ 200) && !(l.getLast? == some 0) && l.all fun d => decide (0 ≤ d) && decide (d < 10000)
/-! ### Kit -/

theorem rd_at (l : List Int) (i : Nat) (h : i < l.length) : rd l (i : Int) = l[i] := by
  unfold rd
  simp [List.getD_eq_getElem?_getD, h]
theorem rd_last (l : List Int) (x : Int) : rd (l ++ [x]) (l.length : Int) = x := by
  unfold rd
  simp [List.getD_eq_getElem?_getD]

/-- The number of a row of digits, the least one first. -/
def val : List Int → Int
  | [] => 0
  | d :: l => d + 10000 * val l
def Dig (l : List Int) : Prop := ∀ d ∈ l, 0 ≤ d ∧ d < 10000
/-- A row without its zeros at the top. -/
def tr : List Int → List Int
  | [] => []
  | d :: l => if tr l = [] then (if d = 0 then [] else [d]) else d :: tr l
/-- A number's digits. -/
def digs (n : Nat) : List Int := if h : n = 0 then [] else ((n % 10000 : Nat) : Int) :: digs (n / 10000)
termination_by n
decreasing_by omega
theorem digs_zero : digs 0 = [] := by unfold digs; simp
theorem digs_pos (n : Nat) (h : n ≠ 0) : digs n = ((n % 10000 : Nat) : Int) :: digs (n / 10000) := by rw [digs]; simp [h]
theorem digs_nil (n : Nat) : digs n = [] ↔ n = 0 := by
  by_cases h : n = 0
  · subst h; simp [digs_zero]
  · rw [digs_pos n h]; simp [h]
theorem val_digs (n : Nat) : val (digs n) = n := by
  induction n using Nat.strongRecOn with
  | ind n ih =>
    by_cases h : n = 0
    · subst h; rw [digs_zero]; rfl
    · rw [digs_pos n h, val, ih (n / 10000) (by omega)]
      omega
theorem dig_digs (n : Nat) : Dig (digs n) := by
  induction n using Nat.strongRecOn with
  | ind n ih =>
    by_cases h : n = 0
    · subst h; rw [digs_zero]; intro d hd; cases hd
    · rw [digs_pos n h]
      intro d hd
      rcases List.mem_cons.1 hd with rfl | hd
      · omega
      · exact ih (n / 10000) (by omega) d hd
theorem Dig.tail {d : Int} {l : List Int} (h : Dig (d :: l)) : Dig l := fun x hx => h x (List.mem_cons_of_mem _ hx)
theorem Dig.head {d : Int} {l : List Int} (h : Dig (d :: l)) : 0 ≤ d ∧ d < 10000 := h d (by simp)
theorem Dig.append {a b : List Int} (h : Dig (a ++ b)) : Dig a ∧ Dig b := ⟨fun x hx => h x (by simp [hx]), fun x hx => h x (by simp [hx])⟩
theorem Dig.join {a b : List Int} (ha : Dig a) (hb : Dig b) : Dig (a ++ b) := fun x hx => by
  rcases List.mem_append.1 hx with h | h
  · exact ha x h
  · exact hb x h
theorem Dig.one {d : Int} (h0 : 0 ≤ d) (h1 : d < 10000) : Dig [d] := fun x hx => by
  rw [List.mem_singleton.1 hx]
  exact ⟨h0, h1⟩
theorem Dig.nil : Dig [] := fun x hx => by cases hx
theorem Dig.take {l : List Int} (h : Dig l) (n : Nat) : Dig (l.take n) := fun x hx => h x (List.mem_of_mem_take hx)
theorem val_nonneg {l : List Int} (h : Dig l) : 0 ≤ val l := by
  induction l with
  | nil => exact Int.le_refl _
  | cons d l ih => have := ih h.tail; have := h.head; rw [val]; omega
theorem tr_digs {l : List Int} (h : Dig l) : tr l = digs (val l).toNat := by
  induction l with
  | nil => rw [tr, val]; exact digs_zero.symm
  | cons d l ih =>
    have h0 := val_nonneg h.tail
    have hd := h.head
    rw [tr, val, ih h.tail]
    by_cases hz : val l = 0
    · rw [hz]
      by_cases hd0 : d = 0
      · subst hd0; simp [digs_zero]
      · have e : (d + 10000 * 0).toNat = d.toNat := by omega
        have e2 : (0 : Int).toNat = 0 := rfl
        rw [if_pos (by rw [e2]; exact digs_zero), if_neg hd0, e, digs_pos _ (by omega), show d.toNat / 10000 = 0 by omega, digs_zero]
        congr 1
        omega
    · rw [if_neg (by rw [digs_nil]; omega), digs_pos (d + 10000 * val l).toNat (by omega)]
      congr 1
      · omega
      · congr 1
        omega
theorem tr_digs_id (n : Nat) : tr (digs n) = digs n := by
  rw [tr_digs (dig_digs n), val_digs]
  rfl
theorem tr_zero (l : List Int) : tr (l ++ [0]) = tr l := by
  induction l with
  | nil => simp [tr]
  | cons d l ih => rw [List.cons_append, tr, ih, tr]
theorem tr_last (l : List Int) (x : Int) (h : x ≠ 0) : tr (l ++ [x]) = l ++ [x] := by
  induction l with
  | nil => simp [tr, h]
  | cons d l ih => rw [List.cons_append, tr, ih, if_neg (by simp)]
theorem norm_digs {l : List Int} (h : Dig l) (hl : l.getLast? ≠ some 0) : l = digs (val l).toNat := by
  rw [← tr_digs h]
  rcases List.eq_nil_or_concat l with rfl | ⟨l', x, rfl⟩
  · rfl
  · rw [List.concat_eq_append] at hl ⊢
    rw [tr_last l' x (by simpa using hl)]
theorem val_append (a b : List Int) : val (a ++ b) = val a + 10000 ^ a.length * val b := by
  induction a with
  | nil => simp [val]
  | cons d a ih =>
    rw [List.cons_append, val, ih, val, List.length_cons]
    have e : (10000 : Int) ^ (a.length + 1) = 10000 * 10000 ^ a.length := by rw [Int.pow_succ, Int.mul_comm]
    rw [e, Int.mul_add, Int.mul_assoc]
    omega
theorem val_lt {l : List Int} (h : Dig l) : val l < 10000 ^ l.length := by
  induction l with
  | nil => decide
  | cons d l ih =>
    have := ih h.tail
    have := h.head
    have e : (10000 : Int) ^ (l.length + 1) = 10000 * 10000 ^ l.length := by rw [Int.pow_succ, Int.mul_comm]
    rw [val, List.length_cons, e]
    omega
theorem len_tr (l : List Int) : (tr l).length ≤ l.length := by
  induction l with
  | nil => exact Nat.le_refl _
  | cons d l ih =>
    rw [tr]
    split
    · split <;> simp
    · simpa using ih
/-- The comparison of the first n digits, from the top. -/
def cmpFrom (a b : List Int) : Nat → Int
  | 0 => 0
  | n + 1 => if rd a n < rd b n then -1 else if rd a n > rd b n then 1 else cmpFrom a b n
def cmpL (a b : List Int) : Int := if a.length < b.length then -1 else if b.length < a.length then 1 else cmpFrom a b a.length
theorem cmpFrom_self (a : List Int) (n : Nat) : cmpFrom a a n = 0 := by
  induction n with
  | zero => rfl
  | succ n ih => rw [cmpFrom, if_neg (by omega), if_neg (by omega), ih]
theorem cmpL_self (a : List Int) : cmpL a a = 0 := by
  unfold cmpL
  rw [if_neg (by omega), if_neg (by omega), cmpFrom_self]
theorem cmpFrom_neg (a b : List Int) (n : Nat) : cmpFrom b a n = - cmpFrom a b n := by
  induction n with
  | zero => rfl
  | succ n ih =>
    rw [cmpFrom, cmpFrom, ih]
    by_cases h1 : rd a n < rd b n
    · rw [if_neg (by omega), if_pos h1, if_pos h1]; rfl
    · by_cases h2 : rd b n < rd a n
      · rw [if_pos h2, if_neg h1, if_pos h2]
      · rw [if_neg h2, if_neg h1, if_neg h1, if_neg h2]
theorem cmpL_neg (a b : List Int) : cmpL b a = - cmpL a b := by
  unfold cmpL
  by_cases h1 : a.length < b.length
  · rw [if_neg (by omega), if_pos h1, if_pos h1]; rfl
  · by_cases h2 : b.length < a.length
    · rw [if_pos h2, if_neg h1, if_pos h2]
    · have : b.length = a.length := by omega
      rw [if_neg h2, if_neg h1, if_neg h1, if_neg h2, this, cmpFrom_neg]
theorem cmpFrom_zero {a b : List Int} : ∀ {n : Nat}, cmpFrom a b n = 0 → ∀ i, i < n → rd a i = rd b i
  | 0, _, i, hi => by omega
  | n + 1, h, i, hi => by
    rw [cmpFrom] at h
    split at h
    · cases h
    · split at h
      · cases h
      · by_cases e : i = n
        · subst e; omega
        · exact cmpFrom_zero h i (by omega)
theorem cmpL_zero {a b : List Int} (h : cmpL a b = 0) : a = b := by
  unfold cmpL at h
  split at h
  · cases h
  · split at h
    · cases h
    · have hl : a.length = b.length := by omega
      refine List.ext_getElem hl fun i h1 h2 => ?_
      rw [← rd_at a i h1, ← rd_at b i h2]
      exact cmpFrom_zero h i h1
theorem take_succ_val {a : List Int} {n : Nat} (h : n < a.length) : val (a.take (n + 1)) = val (a.take n) + 10000 ^ n * rd a n := by
  have e : a.take (n + 1) = a.take n ++ [a[n]] := by simp
  rw [e, val_append, rd_at a n h]
  simp [val, Nat.min_eq_left (Nat.le_of_lt h)]
/-- The comparison's sign. -/
def sgn (x y : Int) : Int := if x < y then -1 else if x > y then 1 else 0
theorem mul_gap {x y p q B : Int} (hB : 0 < B) (hp : 0 ≤ p) (hp2 : p < B) (hq : 0 ≤ q) (hq2 : q < B) (h : x < y) : p + B * x < q + B * y := by
  have h1 : B * (x + 1) ≤ B * y := Int.mul_le_mul_of_nonneg_left (by omega) (by omega)
  rw [Int.mul_add, Int.mul_one] at h1
  omega
theorem pow_pos_ (n : Nat) : (0 : Int) < 10000 ^ n := Int.pow_pos (by decide)
theorem cmpFrom_sgn {a b : List Int} (ha : Dig a) (hb : Dig b) : ∀ n, n ≤ a.length → n ≤ b.length → cmpFrom a b n = sgn (val (a.take n)) (val (b.take n))
  | 0, _, _ => by simp [cmpFrom, sgn]
  | n + 1, h1, h2 => by
    have ih := cmpFrom_sgn ha hb n (by omega) (by omega)
    have pa := val_nonneg (ha.take n)
    have pb := val_nonneg (hb.take n)
    have qa := val_lt (ha.take n)
    have qb := val_lt (hb.take n)
    rw [List.length_take, Nat.min_eq_left (by omega)] at qa qb
    have hp := pow_pos_ n
    rw [cmpFrom, ih, take_succ_val h1, take_succ_val h2]
    by_cases c1 : rd a n < rd b n
    · have := mul_gap hp pa qa pb qb c1
      rw [if_pos c1, sgn, if_pos this]
    · by_cases c2 : rd b n < rd a n
      · have := mul_gap hp pb qb pa qa c2
        rw [if_neg c1, if_pos c2, sgn, if_neg (by omega), if_pos this]
      · have e : rd a n = rd b n := by omega
        rw [if_neg c1, if_neg c2, e]
        unfold sgn
        by_cases d1 : val (a.take n) < val (b.take n)
        · rw [if_pos d1, if_pos (by omega)]
        · by_cases d2 : val (a.take n) > val (b.take n)
          · rw [if_neg d1, if_pos d2, if_neg (by omega), if_pos (by omega)]
          · rw [if_neg d1, if_neg d2, if_neg (by omega), if_neg (by omega)]
theorem len_lt (n : Nat) : (n : Int) < 10000 ^ (digs n).length := by
  have := val_lt (dig_digs n)
  rwa [val_digs] at this
theorem len_le (n : Nat) (h : n ≠ 0) : (10000 : Int) ^ ((digs n).length - 1) ≤ n := by
  induction n using Nat.strongRecOn with
  | ind n ih =>
    rw [digs_pos n h, List.length_cons]
    by_cases h2 : n / 10000 = 0
    · rw [h2, digs_zero]; simp; omega
    · have := ih (n / 10000) (by omega) h2
      have hl : 0 < (digs (n / 10000)).length := by
        rw [List.length_pos_iff]
        intro e
        exact h2 ((digs_nil _).1 e)
      have e : (digs (n / 10000)).length + 1 - 1 = (digs (n / 10000)).length - 1 + 1 := by omega
      rw [e, Int.pow_succ]
      omega
theorem pow_mono {m n : Nat} (h : m ≤ n) : (10000 : Int) ^ m ≤ 10000 ^ n := by
  obtain ⟨d, rfl⟩ : ∃ d, n = m + d := ⟨n - m, by omega⟩
  rw [Int.pow_add]
  have := pow_pos_ m
  have := pow_pos_ d
  have h3 : (10000 : Int) ^ m * 1 ≤ 10000 ^ m * 10000 ^ d := Int.mul_le_mul_of_nonneg_left (by omega) (by omega)
  omega
theorem len_mono {m n : Nat} (h : (digs m).length < (digs n).length) : m < n := by
  have hn : n ≠ 0 := fun e => by subst e; rw [digs_zero] at h; simp at h
  have h1 := len_lt m
  have h2 := len_le n hn
  have h3 := pow_mono (show (digs m).length ≤ (digs n).length - 1 by omega)
  omega
theorem cmp_digs (m n : Nat) : cmpL (digs m) (digs n) = sgn m n := by
  unfold cmpL
  by_cases h1 : (digs m).length < (digs n).length
  · have := len_mono h1
    rw [if_pos h1, sgn, if_pos (by omega)]
  · by_cases h2 : (digs n).length < (digs m).length
    · have := len_mono h2
      rw [if_neg h1, if_pos h2, sgn, if_neg (by omega), if_pos (by omega)]
    · rw [if_neg h1, if_neg h2, cmpFrom_sgn (dig_digs m) (dig_digs n) _ (Nat.le_refl _) (by omega), List.take_length,
        show (digs m).length = (digs n).length by omega, List.take_length, val_digs, val_digs]

/-! ### Txt -/

theorem data_mk (s : ByteArray) : (⟨s.data.toList.toArray⟩ : ByteArray) = s := by rfl
def dvF (a : Nat) (l : List UInt8) : Nat := l.foldl (fun a c => a * 10 + (c.toNat - 48)) a
/-- The number of a decimal text. -/
def dv (l : List UInt8) : Nat := dvF 0 l
def Dec (l : List UInt8) : Prop := ∀ c ∈ l, 48 ≤ c.toNat ∧ c.toNat ≤ 57
theorem Dec.tail {c : UInt8} {l : List UInt8} (h : Dec (c :: l)) : Dec l := fun x hx => h x (List.mem_cons_of_mem _ hx)
theorem Dec.take {l : List UInt8} (h : Dec l) (n : Nat) : Dec (l.take n) := fun x hx => h x (List.mem_of_mem_take hx)
theorem Dec.drop {l : List UInt8} (h : Dec l) (n : Nat) : Dec (l.drop n) := fun x hx => h x (List.mem_of_mem_drop hx)
theorem dvF_append (a : Nat) (l r : List UInt8) : dvF a (l ++ r) = dvF (dvF a l) r := by simp [dvF]
theorem dvF_lin (l : List UInt8) : ∀ a, dvF a l = a * 10 ^ l.length + dvF 0 l := by
  induction l with
  | nil => intro a; simp [dvF]
  | cons c l ih =>
    intro a
    show dvF (a * 10 + (c.toNat - 48)) l = _ + dvF (0 * 10 + (c.toNat - 48)) l
    rw [ih, ih (0 * 10 + (c.toNat - 48)), List.length_cons, Nat.pow_succ, Nat.add_mul, Nat.add_mul, Nat.zero_mul, Nat.mul_assoc, Nat.mul_comm 10]
    omega
theorem dv_cons (c : UInt8) (l : List UInt8) : dv (c :: l) = (c.toNat - 48) * 10 ^ l.length + dv l := by
  show dvF (0 * 10 + (c.toNat - 48)) l = _
  rw [dvF_lin]
  simp [dv]
theorem dv_snoc (l : List UInt8) (c : UInt8) : dv (l ++ [c]) = dv l * 10 + (c.toNat - 48) := by
  unfold dv
  rw [dvF_append]
  rfl
theorem dv_lt {l : List UInt8} (h : Dec l) : dv l < 10 ^ l.length := by
  induction l with
  | nil => decide
  | cons c l ih =>
    have := ih h.tail
    have hc := h c (by simp)
    rw [dv_cons, List.length_cons, Nat.pow_succ, Nat.mul_comm _ 10]
    have : (c.toNat - 48) * 10 ^ l.length ≤ 9 * 10 ^ l.length := Nat.mul_le_mul_right _ (by omega)
    omega
theorem dv_pos {c : UInt8} {l : List UInt8} (h : Dec (c :: l)) (hc : c ≠ 48) : 0 < dv (c :: l) := by
  have h1 := h c (by simp)
  have h2 : c.toNat ≠ 48 := fun e => hc (UInt8.toNat_inj.1 (by simpa using e))
  have h3 : 0 < (c.toNat - 48) * 10 ^ l.length := Nat.mul_pos (by omega) (Nat.pow_pos (by decide))
  rw [dv_cons]
  omega
theorem digit_back (c : UInt8) (h : 48 ≤ c.toNat ∧ c.toNat ≤ 57) : UInt8.ofNat (48 + (c.toNat - 48)) = c := by
  rw [show 48 + (c.toNat - 48) = c.toNat by omega]
  simp
theorem dec_dv : ∀ (n : Nat) (c : UInt8) (l : List UInt8), l.length = n → Dec (c :: l) → c ≠ 48 → Lib.decDigits (dv (c :: l)) = c :: l
  | 0, c, l, hn, h, hc => by
    obtain rfl := List.eq_nil_of_length_eq_zero hn
    have h1 := h c (by simp)
    unfold Lib.decDigits
    rw [dv_cons]
    have : (c.toNat - 48) * 10 ^ ([] : List UInt8).length + dv [] = c.toNat - 48 := by simp [dv, dvF]
    rw [this, dif_pos (by omega), digit_back c h1]
  | n + 1, c, l, hn, h, hc => by
    rcases List.eq_nil_or_concat l with rfl | ⟨l', x, rfl⟩
    · cases hn
    · rw [List.concat_eq_append] at h hn ⊢
      have hx := h x (by simp)
      have hp : Dec (c :: l') := fun y hy => h y (by rcases List.mem_cons.1 hy with rfl | hy <;> simp [*])
      have ih := dec_dv n c l' (by simpa using hn) hp hc
      have hpos := dv_pos hp hc
      unfold Lib.decDigits
      have e : dv (c :: (l' ++ [x])) = dv (c :: l') * 10 + (x.toNat - 48) := dv_snoc (c :: l') x
      rw [e, dif_neg (by omega), show (dv (c :: l') * 10 + (x.toNat - 48)) / 10 = dv (c :: l') by omega, show (dv (c :: l') * 10 + (x.toNat - 48)) % 10 = x.toNat - 48 by omega, ih, digit_back x hx]
      rfl
theorem itoa_nat (n : Nat) : Lib.itoa (n : Int) = Lib.decDigits n := by
  unfold Lib.itoa
  rw [if_neg (by omega)]
  rfl
theorem pad_dv (n : Nat) : ∀ (l : List UInt8), Dec l → 0 < l.length → l.length ≤ n → (List.replicate n (48 : UInt8)).drop (Lib.decDigits (dv l)).length ++ Lib.decDigits (dv l) = List.replicate (n - l.length) 48 ++ l
  | [], _, h0, _ => by cases h0
  | c :: l, h, _, hn => by
    by_cases hc : c = 48
    · subst hc
      cases l with
      | nil =>
        have : Lib.decDigits (dv [48]) = [48] := by unfold Lib.decDigits; rfl
        rw [this]
        simp
      | cons y l =>
        have ih := pad_dv n (y :: l) h.tail (by simp) (by simp at hn ⊢; omega)
        have e : dv (48 :: y :: l) = dv (y :: l) := by rw [dv_cons]; simp
        rw [e, ih]
        simp only [List.length_cons] at hn ⊢
        obtain ⟨d, rfl⟩ : ∃ d, n = d + (l.length + 1 + 1) := ⟨n - (l.length + 1 + 1), by omega⟩
        rw [show d + (l.length + 1 + 1) - (l.length + 1) = d + 1 by omega, show d + (l.length + 1 + 1) - (l.length + 1 + 1) = d by omega, List.replicate_succ', List.append_assoc]
        rfl
    · rw [dec_dv l.length c l rfl h hc]
      simp
theorem pad4_dv {l : List UInt8} (h : Dec l) (hl : l.length = 4) : pad4 (dv l : Int) = l := by
  have := pad_dv 4 l h (by omega) (by omega)
  unfold pad4
  rw [itoa_nat]
  rw [hl] at this
  simpa using this
theorem parseUint_dec : ∀ (l : List UInt8) (acc : Nat), Dec l → (acc + 1) * 10 ^ l.length ≤ 10 ^ 18 → Lib.parseUint10 acc l = .ok (dvF acc l)
  | [], acc, _, _ => rfl
  | c :: l, acc, h, hb => by
    have hc := h c (by simp)
    rw [List.length_cons, Nat.pow_succ] at hb
    have h1 : 0 < 10 ^ l.length := Nat.pow_pos (by decide)
    have h2 : (acc + 1) * 1 ≤ (acc + 1) * (10 ^ l.length * 10) := Nat.mul_le_mul_left _ (by omega)
    rw [Lib.parseUint10, if_pos hc, if_neg (by omega), if_neg (by omega), parseUint_dec l _ h.tail ?_]
    · rfl
    · refine Nat.le_trans ?_ hb
      rw [show (acc + 1) * (10 ^ l.length * 10) = (acc * 10 + 10) * 10 ^ l.length by rw [Nat.mul_comm (10 ^ l.length), ← Nat.mul_assoc, Nat.add_mul]]
      exact Nat.mul_le_mul_right _ (by omega)
theorem atoi_dec {l : List UInt8} (h : Dec l) (h0 : l ≠ []) (hl : l.length ≤ 17) : Lib.atoiAll l = .ok (dv l : Int) := by
  cases l with
  | nil => exact absurd rfl h0
  | cons c l =>
    have hc := h c (by simp)
    have hb : (0 + 1) * 10 ^ (c :: l).length ≤ 10 ^ 18 := by
      rw [Nat.zero_add, Nat.one_mul]
      exact Nat.pow_le_pow_right (by decide) (by omega)
    have hp := parseUint_dec (c :: l) 0 h hb
    have hlt := dv_lt h
    have h3 : 10 ^ (c :: l).length ≤ 10 ^ 18 := Nat.pow_le_pow_right (by decide) (by omega)
    unfold Lib.atoiAll
    simp only
    rw [if_neg (by omega), Lib.parseMag, if_neg (by simp), hp]
    simp only
    have hd : dvF 0 (c :: l) = dv (c :: l) := rfl
    rw [hd]
    rw [if_neg (by omega), if_neg (by omega), if_neg (by omega)]
/-- The digits in the base 10000 of a decimal text, the least one first. -/
def nums (s : List UInt8) : List Int := if h : s = [] then [] else (dv (s.drop (s.length - 4)) : Int) :: nums (s.take (s.length - 4))
termination_by s.length
decreasing_by
  have : 0 < s.length := List.length_pos_iff.2 h
  rw [List.length_take]
  omega
theorem nums_nil : nums [] = [] := by unfold nums; simp
theorem nums_cons (s : List UInt8) (h : s ≠ []) : nums s = (dv (s.drop (s.length - 4)) : Int) :: nums (s.take (s.length - 4)) := by rw [nums]; simp [h]
theorem nums_dig {s : List UInt8} (h : Dec s) : Dig (nums s) := by
  generalize hn : s.length = n
  induction n using Nat.strongRecOn generalizing s with
  | ind n ih =>
    by_cases h0 : s = []
    · subst h0; rw [nums_nil]; exact Dig.nil
    · have hp : 0 < s.length := List.length_pos_iff.2 h0
      rw [nums_cons s h0]
      intro d hd
      rcases List.mem_cons.1 hd with rfl | hd
      · have h1 := dv_lt (h.drop (s.length - 4))
        have h2 : 10 ^ (s.drop (s.length - 4)).length ≤ 10 ^ 4 := Nat.pow_le_pow_right (by decide) (by rw [List.length_drop]; omega)
        omega
      · exact ih (s.take (s.length - 4)).length (by rw [List.length_take]; omega) (h.take _) rfl d hd
theorem nums_len (s : List UInt8) : 4 * (nums s).length ≤ s.length + 3 := by
  generalize hn : s.length = n
  induction n using Nat.strongRecOn generalizing s with
  | ind n ih =>
    by_cases h0 : s = []
    · subst h0; rw [nums_nil]; simp
    · have hp : 0 < s.length := List.length_pos_iff.2 h0
      rw [nums_cons s h0, List.length_cons]
      by_cases h4 : s.length ≤ 4
      · have : s.take (s.length - 4) = [] := by rw [show s.length - 4 = 0 by omega]; rfl
        rw [this, nums_nil]
        simp; omega
      · have := ih (s.take (s.length - 4)).length (by rw [List.length_take]; omega) (s.take (s.length - 4)) rfl
        rw [List.length_take] at this
        omega
theorem fmtL_cons (c : Int) (l : List Int) (h : l ≠ []) : fmtL (c :: l) = fmtL l ++ pad4 c := by
  unfold fmtL
  rw [List.reverse_cons]
  cases hr : l.reverse with
  | nil => exact absurd (by simpa using hr) h
  | cons d r => simp
theorem nums_back {s : List UInt8} (h : Dec s) (h0 : s ≠ []) (hz : s.head? ≠ some 48) : tr (nums s) = nums s ∧ fmtL (nums s) = s ∧ nums s ≠ [] := by
  generalize hn : s.length = n
  induction n using Nat.strongRecOn generalizing s with
  | ind n ih =>
    have hp : 0 < s.length := List.length_pos_iff.2 h0
    rw [nums_cons s h0]
    by_cases h4 : s.length ≤ 4
    · have e : s.take (s.length - 4) = [] := by rw [show s.length - 4 = 0 by omega]; rfl
      have e2 : s.drop (s.length - 4) = s := by rw [show s.length - 4 = 0 by omega]; rfl
      rw [e, e2, nums_nil]
      cases s with
      | nil => exact absurd rfl h0
      | cons c l =>
        have hc : c ≠ 48 := fun e => hz (by rw [e]; rfl)
        have := dv_pos h hc
        refine ⟨by rw [tr, tr, if_pos rfl, if_neg (by omega)], ?_, by simp⟩
        unfold fmtL
        simp only [List.reverse_cons, List.reverse_nil, List.nil_append, List.flatMap_nil, List.append_nil]
        rw [itoa_nat, dec_dv l.length c l rfl h hc]
    · have hne : s.take (s.length - 4) ≠ [] := fun e => by
        have := congrArg List.length e
        rw [List.length_take] at this
        simp at this
        omega
      have hh : (s.take (s.length - 4)).head? ≠ some 48 := by
        rw [List.head?_take, if_neg (by omega)]
        exact hz
      obtain ⟨i1, i2, i3⟩ := ih (s.take (s.length - 4)).length (by rw [List.length_take]; omega) (h.take _) hne hh rfl
      refine ⟨by rw [tr, i1, if_neg i3], ?_, by simp⟩
      rw [fmtL_cons _ _ i3, i2, pad4_dv (h.drop _) (by rw [List.length_drop]; omega), List.take_append_drop]
theorem tr_getLast (l : List Int) : (tr l).getLast? ≠ some 0 := by
  generalize hn : l.length = n
  induction n generalizing l with
  | zero => obtain rfl := List.eq_nil_of_length_eq_zero hn; simp [tr]
  | succ n ih =>
    rcases List.eq_nil_or_concat l with rfl | ⟨l', x, rfl⟩
    · cases hn
    · rw [List.concat_eq_append] at hn ⊢
      by_cases hx : x = 0
      · subst hx
        rw [tr_zero]
        exact ih l' (by simpa using hn)
      · rw [tr_last l' x hx]
        simpa using hx
theorem tr_dig {l : List Int} (h : Dig l) : Dig (tr l) := by rw [tr_digs h]; exact dig_digs _
theorem valid_tr {l : List Int} (h : Dig l) (hl : (tr l).length ≤ 200) : validB (tr l) = true := by
  unfold validB
  rw [decide_eq_true hl]
  have h1 := tr_getLast l
  have h2 := tr_dig h
  simp only [Bool.true_and, Bool.and_eq_true, Bool.not_eq_true', beq_eq_false_iff_ne, ne_eq, List.all_eq_true, decide_eq_true_eq]
  exact ⟨h1, h2⟩
theorem fmt_nums {s : List UInt8} (h : Dec s) (h0 : s ≠ []) (hz : s.head? = some 48 → s = [48]) : fmtL (tr (nums s)) = s := by
  by_cases hh : s.head? = some 48
  · rw [hz hh]
    have e : nums [48] = [0] := by rw [nums_cons _ (by simp)]; simp [nums_nil, dv, dvF]
    rw [e]
    rfl
  · obtain ⟨i1, i2, _⟩ := nums_back h h0 hh
    rw [i1, i2]

/-! ### PuMul -/

theorem val_set (l : List Int) : ∀ (p : Nat) (v : Int) (h : p < l.length), val (l.set p v) = val l + (v - rd l p) * 10000 ^ p := by
  induction l with
  | nil => intro p v h; cases h
  | cons d l ih =>
    intro p v h
    cases p with
    | zero => simp [val, rd]; omega
    | succ p =>
      have := ih p v (by simpa using h)
      have e : rd (d :: l) ((p + 1 : Nat) : Int) = rd l (p : Int) := by unfold rd; simp
      rw [List.set_cons_succ, val, this, val, e, Int.pow_succ]
      grind
theorem rd_set (l : List Int) (p q : Nat) (v : Int) (h : p < l.length) : rd (l.set p v) (q : Int) = if q = p then v else rd l q := by
  unfold rd
  simp only [List.getD_eq_getElem?_getD, Int.toNat_natCast]
  by_cases e : q = p
  · subst e
    rw [if_pos rfl]
    simp [h]
  · rw [if_neg e, List.getElem?_set_ne (fun x => e x.symm)]
theorem dig_rd {l : List Int} (h : Dig l) (p : Nat) : 0 ≤ rd l p ∧ rd l p < 10000 := by
  unfold rd
  rw [List.getD_eq_getElem?_getD, Int.toNat_natCast]
  by_cases hp : p < l.length
  · rw [List.getElem?_eq_getElem hp]
    exact h _ (List.getElem_mem hp)
  · rw [List.getElem?_eq_none (by omega)]
    decide
theorem Dig.set {l : List Int} (h : Dig l) (p : Nat) {v : Int} (h0 : 0 ≤ v) (h1 : v < 10000) : Dig (l.set p v) := fun x hx => by
  rcases List.mem_or_eq_of_mem_set hx with h2 | h2
  · exact h x h2
  · rw [h2]; exact ⟨h0, h1⟩
theorem dig_zeros (n : Nat) : Dig (List.replicate n 0) := fun x hx => by
  rw [List.eq_of_mem_replicate hx]
  decide
theorem val_zeros (n : Nat) : val (List.replicate n 0) = 0 := by
  induction n with
  | zero => rfl
  | succ n ih => rw [List.replicate_succ, val, ih]; rfl
theorem rd_zeros (n p : Nat) : rd (List.replicate n 0) (p : Int) = 0 := by
  unfold rd
  rw [List.getD_eq_getElem?_getD, Int.toNat_natCast]
  by_cases hp : p < n
  · rw [List.getElem?_replicate, if_pos hp]; rfl
  · rw [List.getElem?_replicate, if_neg hp]; rfl
theorem mul_le_ {x y : Int} (hx : 0 ≤ x) (hx1 : x < 10000) (hy : 0 ≤ y) (hy1 : y < 10000) : 0 ≤ x * y ∧ x * y ≤ 99980001 := by
  refine ⟨Int.mul_nonneg hx hy, ?_⟩
  have h1 : x * y ≤ 9999 * y := Int.mul_le_mul_of_nonneg_right (by omega) hy
  omega
/-- What stands between two places of the inner round. -/
structure Inner (a b out0 out : List Int) (i j : Nat) (c : Int) : Prop where
  len : out.length = out0.length
  dig : Dig out
  c0 : 0 ≤ c
  c1 : c < 10000
  top : ∀ p : Nat, i + b.length ≤ p → rd out p = 0
  eq : val out + c * 10000 ^ (i + j) = val out0 + rd a i * val (b.take j) * 10000 ^ i
theorem Inner.start {a b out0 : List Int} {i : Nat} (hd : Dig out0) (ht : ∀ p : Nat, i + b.length ≤ p → rd out0 p = 0) : Inner a b out0 out0 i 0 0 :=
  ⟨rfl, hd, by decide, by decide, ht, by simp [val]⟩
theorem Inner.next {a b out0 out : List Int} {i j : Nat} {c q r : Int} (h : Inner a b out0 out i j c) (hj : j < b.length) (hl : i + j < out.length) (hq0 : 0 ≤ q) (hq1 : q < 10000) (hr0 : 0 ≤ r) (hr1 : r < 10000)
    (he : c + (rd out ((i + j : Nat) : Int) + rd a i * rd b j) = 10000 * q + r) : Inner a b out0 (out.set (i + j) r) i (j + 1) q := by
  refine ⟨by rw [List.length_set]; exact h.len, h.dig.set _ hr0 hr1, hq0, hq1, fun p hp => ?_, ?_⟩
  · rw [rd_set _ _ _ _ hl, if_neg (by omega)]
    exact h.top p hp
  · have h1 := h.eq
    rw [val_set _ _ _ hl, take_succ_val hj, show i + (j + 1) = i + j + 1 by omega, Int.pow_succ]
    have e : (10000 : Int) ^ (i + j) = 10000 ^ i * 10000 ^ j := Int.pow_add ..
    rw [e] at h1 ⊢
    clear h
    generalize rd out ((i + j : Nat) : Int) = o at *
    generalize rd a (i : Int) = x at *
    generalize rd b (j : Int) = y at *
    generalize (10000 : Int) ^ i = P at *
    generalize (10000 : Int) ^ j = Q at *
    generalize val (b.take j) = V at *
    generalize val out = U at *
    grind
/-- What stands between two outer rounds. -/
structure Outer (a b out : List Int) (n i : Nat) : Prop where
  len : out.length = n
  dig : Dig out
  top : ∀ p : Nat, i + b.length ≤ p → rd out p = 0
  eq : val out = val (a.take i) * val b
theorem Outer.start (a b : List Int) (n : Nat) : Outer a b (List.replicate n 0) n 0 := ⟨List.length_replicate, dig_zeros n, fun p _ => rd_zeros n p, by rw [val_zeros]; simp [val]⟩
theorem Outer.next {a b out0 out : List Int} {n i : Nat} {c : Int} (h0 : Outer a b out0 n i) (h : Inner a b out0 out i b.length c) (hi : i < a.length) (hl : i + b.length < n) : Outer a b (out.set (i + b.length) c) n (i + 1) := by
  have hl' : i + b.length < out.length := by rw [h.len, h0.len]; exact hl
  refine ⟨by rw [List.length_set, h.len]; exact h0.len, h.dig.set _ h.c0 h.c1, fun p hp => ?_, ?_⟩
  · rw [rd_set _ _ _ _ hl', if_neg (by omega)]
    exact h.top p (by omega)
  · have h1 := h.eq
    have h2 := h0.eq
    have h3 := h.top (i + b.length) (Nat.le_refl _)
    rw [List.take_length] at h1
    rw [val_set _ _ _ hl', take_succ_val hi, h3]
    have e : (10000 : Int) ^ (i + b.length) = 10000 ^ i * 10000 ^ b.length := Int.pow_add ..
    rw [e] at h1 ⊢
    clear h h0
    generalize rd a (i : Int) = x at *
    generalize (10000 : Int) ^ i = P at *
    generalize (10000 : Int) ^ b.length = Q at *
    generalize val (a.take i) = A at *
    generalize val b = B at *
    grind
theorem Outer.done {a b out : List Int} {n : Nat} (h : Outer a b out n a.length) : tr out = digs (val a * val b).toNat := by
  rw [tr_digs h.dig, h.eq, List.take_length]
/-- A result, or that it is too large. -/
def fit (n : Nat) : List Int × Int := if (digs n).length > 200 then ([], 3) else (digs n, 0)
theorem validB_parts {l : List Int} (h : validB l = true) : l.length ≤ 200 ∧ Dig l ∧ l.getLast? ≠ some 0 := by
  unfold validB at h
  simp only [Bool.and_eq_true, decide_eq_true_eq, Bool.not_eq_true', beq_eq_false_iff_ne, List.all_eq_true] at h
  exact ⟨h.1.1, h.2, h.1.2⟩
theorem digs_le (n m : Nat) (h : (n : Int) < 10000 ^ m) : (digs n).length ≤ m := by
  by_cases h0 : n = 0
  · subst h0; rw [digs_zero]; simp
  · have h1 := len_le n h0
    rcases Nat.lt_or_ge m (digs n).length with h2 | h2
    · have := pow_mono (show m ≤ (digs n).length - 1 by omega)
      omega
    · exact h2
theorem prod_len {a b : List Int} (ha : Dig a) (hb : Dig b) : (digs (val a * val b).toNat).length ≤ a.length + b.length := by
  apply digs_le
  have h1 := val_nonneg ha
  have h2 := val_nonneg hb
  have h3 := val_lt ha
  have h4 := val_lt hb
  have h5 := Int.mul_nonneg h1 h2
  have h6 : val a * val b ≤ val a * 10000 ^ b.length := Int.mul_le_mul_of_nonneg_left (by omega) h1
  have h7 : val a * 10000 ^ b.length < 10000 ^ a.length * 10000 ^ b.length := Int.mul_lt_mul_of_pos_right h3 (pow_pos_ _)
  rw [Int.pow_add, Int.toNat_of_nonneg h5]
  omega
def mulR (a b : List Int) : List Int × Int := if validB a = true ∧ validB b = true then fit (val a * val b).toNat else ([], 1)
theorem fit_len (n : Nat) : (fit n).1.length ≤ 200 := by
  unfold fit
  split
  · simp
  · simpa using Nat.le_of_not_gt (by assumption)
theorem mulR_len (a b : List Int) : (mulR a b).1.length ≤ 200 := by
  unfold mulR
  split
  · exact fit_len _
  · simp

/-! ### PuAdd -/

theorem rd_out (l : List Int) (i : Nat) (h : l.length ≤ i) : rd l (i : Int) = 0 := by
  unfold rd
  rw [List.getD_eq_getElem?_getD, Int.toNat_natCast, List.getElem?_eq_none h]
  rfl
theorem vt_succ (l : List Int) (i : Nat) : val (l.take (i + 1)) = val (l.take i) + 10000 ^ i * rd l i := by
  by_cases h : i < l.length
  · exact take_succ_val h
  · rw [rd_out l i (by omega), Int.mul_zero, Int.add_zero, List.take_of_length_le (by omega), List.take_of_length_le (by omega)]
theorem val_snoc (l : List Int) (d : Int) : val (l ++ [d]) = val l + 10000 ^ l.length * d := by
  rw [val_append]
  simp [val]
theorem full {l : List Int} (h : Dig l) (h0 : l ≠ []) (hv : 10000 ^ (l.length - 1) ≤ val l) : l = digs (val l).toNat := by
  refine norm_digs h ?_
  intro e
  rcases List.eq_nil_or_concat l with rfl | ⟨l', x, rfl⟩
  · exact h0 rfl
  · rw [List.concat_eq_append] at *
    have hx : x = 0 := by simpa using e
    subst hx
    have := val_lt (Dig.append h).1
    rw [val_snoc, List.length_append, List.length_singleton, Nat.add_sub_cancel] at hv
    omega
structure Sum (a b out : List Int) (i : Nat) (c : Int) : Prop where
  len : out.length = i
  dig : Dig out
  c0 : 0 ≤ c
  c1 : c ≤ 1
  eq : val out + c * 10000 ^ i = val (a.take i) + val (b.take i)
theorem Sum.start (a b : List Int) : Sum a b [] 0 0 := ⟨rfl, Dig.nil, by decide, by decide, by simp [val]⟩
theorem Sum.next {a b out : List Int} {i : Nat} {c q r : Int} (h : Sum a b out i c) (q0 : 0 ≤ q) (q1 : q ≤ 1) (r0 : 0 ≤ r) (r1 : r < 10000) (he : c + rd a i + rd b i = 10000 * q + r) : Sum a b (out ++ [r]) (i + 1) q := by
  refine ⟨by rw [List.length_append, h.len]; rfl, h.dig.join (Dig.one r0 r1), q0, q1, ?_⟩
  have h1 := h.eq
  rw [val_snoc, h.len, vt_succ a i, vt_succ b i, Int.pow_succ]
  clear h
  generalize rd a (i : Int) = x at *
  generalize rd b (i : Int) = y at *
  generalize (10000 : Int) ^ i = P at *
  generalize val (a.take i) = A at *
  generalize val (b.take i) = B at *
  generalize val out = U at *
  grind
/-- What stands between two places of a difference. -/
structure Dif (a b : List Int) (v : Int) (i : Nat) (c : Int) : Prop where
  c0 : 0 ≤ c
  c1 : c ≤ 1
  eq : v - c * 10000 ^ i = val (a.take i) - val (b.take i)
theorem minus {c x y : Int} (hc : 0 ≤ c) (hc1 : c ≤ 1) (hx : 0 ≤ x) (hx1 : x < 10000) (hy : 0 ≤ y) (hy1 : y < 10000) :
    (x - c - y < 0 ∧ 0 ≤ x - c - y + 10000 ∧ x - c - y + 10000 < 10000) ∨ (¬ x - c - y < 0 ∧ 0 ≤ x - c - y ∧ x - c - y < 10000) := by omega
/-! ### PuDiv -/

theorem dig1 (d : Nat) (h : d < 10000) : Dig [(d : Int)] := Dig.one (by omega) (by omega)
theorem val1 (d : Int) : val [d] = d := by simp [val]
theorem len_of_lt {m n : Nat} (h : m ≤ n) : (digs m).length ≤ (digs n).length := by
  rcases Nat.lt_or_ge (digs n).length (digs m).length with h2 | h2
  · have := len_mono h2
    omega
  · exact h2
theorem digs_app (d R : Nat) (hd : d < 10000) : tr ([(d : Int)] ++ digs R) = digs (d + 10000 * R) := by
  rw [tr_digs ((dig1 d hd).join (dig_digs R))]
  congr 1
  rw [List.singleton_append, val, val_digs]
  omega
theorem sgn_le (m n : Nat) : (sgn m n ≤ 0) ↔ m ≤ n := by
  unfold sgn
  by_cases h1 : (m : Int) < n
  · rw [if_pos h1]; omega
  · by_cases h2 : (m : Int) > n
    · rw [if_neg h1, if_pos h2]; omega
    · rw [if_neg h1, if_neg h2]; omega
/-- A step of the division from the top. -/
theorem div_step (n hi d : Nat) (hn : 0 < n) : (d + 10000 * hi) / n = 10000 * (hi / n) + (d + 10000 * (hi % n)) / n ∧ (d + 10000 * hi) % n = (d + 10000 * (hi % n)) % n := by
  have e : d + 10000 * hi = (d + 10000 * (hi % n)) + n * (10000 * (hi / n)) := by
    have := Nat.div_add_mod hi n
    generalize hi / n = q at *
    generalize hi % n = r at *
    subst this
    grind
  rw [e, Nat.add_mul_div_left _ _ hn, Nat.add_mul_mod_self_left]
  exact ⟨by omega, rfl⟩
theorem div_small (n hi d : Nat) (hn : 0 < n) (hd : d < 10000) : (d + 10000 * (hi % n)) / n < 10000 := by
  rw [Nat.div_lt_iff_lt_mul hn]
  have := Nat.mod_lt hi hn
  omega
/-- The number at the top of a row, from place i on. -/
def top (a : List Int) (i : Nat) : Nat := (val (a.drop i)).toNat
theorem top_step {a : List Int} (ha : Dig a) {i : Nat} (hi : i < a.length) : top a i = (rd a i).toNat + 10000 * top a (i + 1) := by
  unfold top
  have e0 : a.drop i = a[i] :: a.drop (i + 1) := List.drop_eq_getElem_cons hi
  have hd : Dig (a.drop (i + 1)) := fun x hx => ha x (List.mem_of_mem_drop hx)
  have h1 := val_nonneg hd
  have h2 := ha _ (List.getElem_mem hi)
  rw [e0, val, rd_at a i hi]
  omega
theorem top_len {a : List Int} : top a a.length = 0 := by unfold top; rw [List.drop_length]; rfl
theorem top_zero (a : List Int) : top a 0 = (val a).toNat := rfl
theorem top_digs_len {a : List Int} (ha : Dig a) (i : Nat) : (digs (top a i)).length ≤ a.length := by
  apply digs_le
  have hd : Dig (a.drop i) := fun x hx => ha x (List.mem_of_mem_drop hx)
  have h1 := val_lt hd
  have h2 := val_nonneg hd
  have h3 := pow_mono (show (a.drop i).length ≤ a.length by rw [List.length_drop]; omega)
  unfold top
  omega
/-! ### PuGcd -/
/-- The answer of Div. -/
def divR (a b : List Int) : List Int × List Int × Int := if validB a = true ∧ validB b = true then (if (val b).toNat = 0 then ([], [], 6) else (digs ((val a).toNat / (val b).toNat), digs ((val a).toNat % (val b).toNat), 0)) else ([], [], 1)
theorem len_zero (n : Nat) : ((digs n).length : Int) = 0 ↔ n = 0 := by
  constructor
  · intro h
    exact (digs_nil n).1 (List.eq_nil_of_length_eq_zero (by omega))
  · intro h
    rw [h, digs_zero]
    rfl
/-- The answer of Gcd. -/
def gcdR (a b : List Int) : List Int × Int := if validB a = true ∧ validB b = true then (digs (Nat.gcd (val a).toNat (val b).toNat), 0) else ([], 1)
theorem half_val {l : List Int} {i h t : Nat} {v : Int} (hi : i < l.length) (hz : rd l i = 0) (hv : v = (h : Int)) (he : val l = 10000 ^ (i + 1) * (t : Int)) : val (l.set i v) = 10000 ^ i * ((10000 * t + h : Nat) : Int) := by
  rw [val_set _ _ _ hi, hz, he, hv, Int.pow_succ, Int.natCast_add, Int.natCast_mul]
  generalize (t : Int) = x
  generalize (h : Int) = y
  generalize (10000 : Int) ^ i = P
  grind
theorem nat_dig {h : Nat} (hh : h < 10000) : 0 ≤ (h : Int) ∧ (h : Int) < 10000 := by omega
theorem gcd_two {x y : Nat} (hx : x % 2 = 0) (hy : y % 2 = 0) : Nat.gcd x y = 2 * Nat.gcd (x / 2) (y / 2) := by
  rw [← Nat.gcd_mul_left]
  congr 1 <;> omega
theorem co_two {y : Nat} (hy : ¬ y % 2 = 0) : Nat.Coprime 2 y := by
  show Nat.gcd 2 y = 1
  rw [Nat.gcd_rec, show y % 2 = 1 by omega, Nat.gcd_one_left]
theorem gcd_half_l {x y : Nat} (hx : x % 2 = 0) (hy : ¬ y % 2 = 0) : Nat.gcd x y = Nat.gcd (x / 2) y := by
  have := Nat.Coprime.gcd_mul_left_cancel (x / 2) (co_two hy)
  rw [show 2 * (x / 2) = x by omega] at this
  exact this
theorem gcd_half_r {x y : Nat} (hx : ¬ x % 2 = 0) (hy : y % 2 = 0) : Nat.gcd x y = Nat.gcd x (y / 2) := by
  rw [Nat.gcd_comm, gcd_half_l hy hx, Nat.gcd_comm]
theorem gcd_sub_ {x y : Nat} (h : y ≤ x) : Nat.gcd x y = Nat.gcd y (x - y) := by
  obtain ⟨d, rfl⟩ : ∃ d, x = y + d := ⟨x - y, by omega⟩
  rw [Nat.add_sub_cancel_left]
  have : Nat.gcd (y + d) y = Nat.gcd d y := by simp
  rw [this, Nat.gcd_comm]
theorem sgn_pos (x y : Nat) (h : sgn x y > 0) : y < x := by
  unfold sgn at h
  by_cases h1 : (x : Int) < y
  · rw [if_pos h1] at h; omega
  · by_cases h2 : (x : Int) > y
    · omega
    · rw [if_neg h1, if_neg h2] at h; omega
theorem pow14 (m : Nat) : 10000 ^ m ≤ 2 ^ (14 * m) := by
  rw [Nat.pow_mul]
  exact Nat.pow_le_pow_left (by decide) m
theorem big_pow_ (B t m : Nat) (lB : (digs B).length ≤ m) (h : 14 * m ≤ t) (h1 : 2 ^ t ≤ B) : False := by
  have h2 := len_lt B
  have h3 := pow_mono lB
  have h4 : (B : Int) < ((10000 ^ m : Nat) : Int) := by rw [Int.natCast_pow]; exact Int.lt_of_lt_of_le h2 h3
  have h5 : B < 10000 ^ m := Int.ofNat_lt.1 h4
  have h7 : 2 ^ (14 * m) ≤ 2 ^ t := Nat.pow_le_pow_right (by decide) h
  exact Nat.lt_irrefl _ (Nat.lt_of_lt_of_le h5 (Nat.le_trans (pow14 m) (Nat.le_trans h7 h1)))
theorem big_pow (B t : Nat) (lB : (digs B).length ≤ 400) (h : 6000 < t) (h1 : 2 ^ t ≤ B) : False := big_pow_ B t 400 lB (by omega) h1
theorem add_len' (m n b : Nat) (hm : (digs m).length ≤ b) (hn : (digs n).length ≤ b) : (digs (m + n)).length ≤ b + 1 := by
  apply digs_le
  have h1 := len_lt m
  have h2 := len_lt n
  have h3 := pow_mono hm
  have h4 := pow_mono hn
  rw [Int.pow_succ]
  omega
/-! ### PuValid -/

theorem tdiv_ (n : Nat) (m : Nat) : Int.tdiv (n : Int) (m : Int) = ((n / m : Nat) : Int) := by
  rw [Int.tdiv_eq_ediv_of_nonneg (by omega)]
  exact (Int.natCast_ediv n m).symm
theorem tmod_ (n : Nat) (m : Nat) : Int.tmod (n : Int) (m : Int) = ((n % m : Nat) : Int) := by
  rw [Int.tmod_eq_emod_of_nonneg (by omega)]
  exact (Int.natCast_emod n m).symm
theorem digs_len (n : Nat) (h : n < 10000000000000000000) : (digs n).length ≤ 5 := by
  by_cases h0 : n = 0
  · subst h0; rw [digs_zero]; simp
  rw [digs_pos n h0, List.length_cons]
  by_cases h1 : n / 10000 = 0
  · rw [h1, digs_zero]; simp
  rw [digs_pos _ h1, List.length_cons]
  by_cases h2 : n / 10000 / 10000 = 0
  · rw [h2, digs_zero]; simp
  rw [digs_pos _ h2, List.length_cons]
  by_cases h3 : n / 10000 / 10000 / 10000 = 0
  · rw [h3, digs_zero]; simp
  rw [digs_pos _ h3, List.length_cons]
  by_cases h4 : n / 10000 / 10000 / 10000 / 10000 = 0
  · rw [h4, digs_zero]; simp
  rw [digs_pos _ h4, List.length_cons]
  rw [show n / 10000 / 10000 / 10000 / 10000 / 10000 = 0 by omega, digs_zero]
  simp
def ofI (n : Int) : List Int × Int := if n < 0 then ([], 6) else (digs n.toNat, 0)
theorem ofI_len (n : Int) (h : n ≤ 9223372036854775807) : (ofI n).1.length ≤ 5 := by
  unfold ofI
  split
  · simp
  · exact digs_len n.toNat (by omega)
theorem cmpFrom_abs (a b : List Int) (n : Nat) : -1 ≤ cmpFrom a b n ∧ cmpFrom a b n ≤ 1 := by
  induction n with
  | zero => simp [cmpFrom]
  | succ n ih =>
    rw [cmpFrom]
    split
    · omega
    · split
      · omega
      · exact ih
theorem cmpL_abs (a b : List Int) : -1 ≤ cmpL a b ∧ cmpL a b ≤ 1 := by
  unfold cmpL
  split
  · omega
  · split
    · omega
    · exact cmpFrom_abs a b _
/-! ### PuRing -/
theorem add_len (m n b : Nat) (hm : (digs m).length ≤ b) (hn : (digs n).length ≤ b) : (digs (m + n)).length ≤ b + 1 := by
  apply digs_le
  have h1 := len_lt m
  have h2 := len_lt n
  have h3 := pow_mono hm
  have h4 := pow_mono hn
  rw [Int.pow_succ]
  omega
theorem mul_len (m n : Nat) : (digs (m * n)).length ≤ (digs m).length + (digs n).length := by
  have := prod_len (dig_digs m) (dig_digs n)
  rw [val_digs, val_digs, ← Int.natCast_mul] at this
  exact this
theorem fit_ok (n : Nat) (h : (digs n).length ≤ 200) : fit n = (digs n, 0) := by
  unfold fit
  rw [if_neg (by omega)]
end Go.VN


namespace Go.VN
open Go.RowKit
set_option linter.unusedVariables false
/-! ### Texts -/
def fmtR (a : List Int) : List UInt8 × Int := if validB a = true then (fmtL a, 0) else ([], 1)
abbrev sr (r : List UInt8 × Int) : Go.VL.PA := .tup [(false, [.str r.1]), (false, [.int .i64 r.2])]
theorem nDigits4 {d : Nat} (h : d < 10000) : Lib.nDigits d ≤ 4 := by
  rw [Lib.nDigits]; split
  · omega
  · rw [Lib.nDigits]; split
    · omega
    · rw [Lib.nDigits]; split
      · omega
      · rw [Lib.nDigits]; split <;> omega
theorem itoa4 {d : Int} (h0 : 0 ≤ d) (h : d < 10000) : (Lib.itoa d).length ≤ 4 := by
  unfold Lib.itoa
  rw [if_neg (by omega), Lib.decDigits_length]
  exact nDigits4 (by omega)
theorem pad4_len {d : Int} (h0 : 0 ≤ d) (h : d < 10000) : (pad4 d).length = 4 := by
  have := itoa4 h0 h
  unfold pad4
  rw [List.length_append, List.length_drop]
  simp only [List.length_cons, List.length_nil]
  omega
theorem pad4_sum {d : Int} (h0 : 0 ≤ d) (h : d < 10000) : (([48, 48, 48, 48] : List UInt8).drop (Lib.itoa d).length).length + (Lib.itoa d).length ≤ 9223372036854775807 := by
  have := pad4_len h0 h
  unfold pad4 at this
  rw [List.length_append] at this
  omega
theorem valid_bounds {a : List Int} (h : validB a = true) : a.length ≤ 200 ∧ ∀ i, 0 ≤ a.getD i 0 ∧ a.getD i 0 < 10000 := by
  obtain ⟨la, da, _⟩ := validB_parts h
  exact ⟨la, fun i => dig_rd da i⟩
theorem fmtL_drop {a : List Int} {i : Nat} (h : i + 1 < a.length) : fmtL (a.drop i) = fmtL (a.drop (i + 1)) ++ pad4 (a.getD i 0) := by
  rw [List.drop_eq_getElem_cons (by omega), fmtL_cons _ _ (fun e => by have := congrArg List.length e; rw [List.length_drop, List.length_nil] at this; omega)]
  simp [List.getD_eq_getElem?_getD, show i < a.length by omega]
theorem fmtL_last {a : List Int} (h : 0 < a.length) : fmtL (a.drop (a.length - 1)) = Lib.itoa (a.getD (a.length - 1) 0) := by
  rw [List.drop_eq_getElem_cons (by omega), List.drop_of_length_le (by omega)]
  simp [fmtL, List.getD_eq_getElem?_getD, show a.length - 1 < a.length by omega]
theorem fmtL_len {a : List Int} (hd : ∀ i, 0 ≤ a.getD i 0 ∧ a.getD i 0 < 10000) : ∀ k, k < a.length → (fmtL (a.drop (a.length - 1 - k))).length ≤ 4 * (k + 1)
  | 0, h => by
    rw [Nat.sub_zero, fmtL_last h]
    exact itoa4 (hd _).1 (hd _).2
  | k + 1, h => by
    have ih := fmtL_len hd k (by omega)
    rw [fmtL_drop (show a.length - 1 - (k + 1) + 1 < a.length by omega), List.length_append, pad4_len (hd _).1 (hd _).2, show a.length - 1 - (k + 1) + 1 = a.length - 1 - k by omega]
    omega
/-! ### Parse -/
def bad (s : List UInt8) : Bool := s.isEmpty || (decide (1 < s.length) && s.head? == some 48) || !(s.all fun c => decide (48 ≤ c.toNat) && decide (c.toNat ≤ 57))
def parseL (s : List UInt8) : List Int × Int := if bad s = true then ([], 2) else if s.length > 800 then ([], 3) else (tr (nums s), 0)
theorem dec_all {s : List UInt8} : (s.all fun c => decide (48 ≤ c.toNat) && decide (c.toNat ≤ 57)) = true ↔ Dec s := by
  simp [Dec]
theorem contains_dec (c : UInt8) : ([48, 49, 50, 51, 52, 53, 54, 55, 56, 57] : List UInt8).contains c = (decide (48 ≤ c.toNat) && decide (c.toNat ≤ 57)) := by
  rw [Bool.eq_iff_iff]
  simp only [List.contains_eq_mem, List.mem_cons, List.not_mem_nil, or_false, decide_eq_true_eq, Bool.and_eq_true, ← UInt8.toNat_inj]
  simp
  omega
theorem dropWhile_nil {α : Type} (p : α → Bool) (l : List α) : l.dropWhile p = [] ↔ l.all p = true := by
  induction l with
  | nil => simp
  | cons a l ih =>
    rw [List.dropWhile_cons]
    cases h : p a <;> simp [h, ih]
theorem dropWhile_all_rev {α : Type} (p : α → Bool) (l : List α) : ((l.reverse.dropWhile p).reverse.dropWhile p = []) ↔ l.all p = true := by
  constructor
  · intro h
    cases hd : l.reverse.dropWhile p with
    | nil =>
      have := (dropWhile_nil p _).1 hd
      rwa [List.all_reverse] at this
    | cons a r =>
      rw [hd] at h
      have h1 := (dropWhile_nil p _).1 h
      rw [List.all_reverse] at h1
      have h2 : p a = true := by
        have := List.all_eq_true.1 h1 a (by simp)
        exact this
      have h3 : ¬ p a = true := by
        have := List.head_dropWhile_not p (l := l.reverse) (by rw [hd]; simp)
        simp [hd] at this
        simp [this]
      exact absurd h2 h3
  · intro h
    have h1 : l.reverse.dropWhile p = [] := (dropWhile_nil p _).2 (by rw [List.all_reverse]; exact h)
    rw [h1]
    rfl
abbrev decSet : List UInt8 := [48, 49, 50, 51, 52, 53, 54, 55, 56, 57]
theorem trimS_dec (s : List UInt8) : Lib.trimS s decSet = [] ↔ Dec s := by
  have h1 := dropWhile_all_rev (fun c : UInt8 => decSet.contains c) s
  have h2 : (s.all fun c => decide (48 ≤ c.toNat) && decide (c.toNat ≤ 57)) = s.all fun c : UInt8 => decSet.contains c := by
    congr 1
    funext c
    rw [contains_dec]
  rw [← dec_all, h2, ← h1]
  rfl
theorem head_ok {l : List UInt8} {c : UInt8} (h : l.head? = some c) (hc : ¬c = 48) (h0 : ¬l = []) : (l.isEmpty || (decide (1 < l.length) && l.head? == some 48)) = false := by
  rw [h]
  simp [hc, h0]
theorem len_ok {l : List UInt8} (h0 : ¬l = []) (h1 : ¬1 < l.length) : (l.isEmpty || (decide (1 < l.length) && l.head? == some 48)) = false := by
  simp [h0, h1]
theorem one_48 {l : List UInt8} (h : l.head? = some 48) (h1 : ¬1 < l.length) : l = [48] := by
  match l, h, h1 with
  | [c], h, _ => simp at h; rw [h]
  | [], h, _ => cases h
  | _ :: _ :: _, _, h1 => exact absurd (by simp) h1
theorem take_snocU (l : List UInt8) (i : Nat) (h : i < l.length) : l.take (i + 1) = l.take i ++ [l[i]] := by simp
theorem bad_nil : bad [] = true := rfl
theorem bad_zero {s : List UInt8} (h0 : s ≠ []) (h1 : s ≠ [48]) (h : s.getD 0 0 = 48) : bad s = true := by
  match s, h0, h1, h with
  | [c], _, h1, h => simp at h; subst h; exact absurd rfl h1
  | c :: d :: l, _, _, h => simp at h; subst h; simp [bad]
theorem bad_ok {s : List UInt8} (h0 : s ≠ []) (h : s = [48] ∨ s.getD 0 0 ≠ 48) : bad s = true ↔ ¬ Dec s := by
  have e : (decide (1 < s.length) && s.head? == some 48) = false := by
    rcases h with rfl | h
    · rfl
    · match s, h0, h with
      | c :: l, _, h => simp at h; simp [h]
  have e2 : s.isEmpty = false := by simpa using h0
  unfold bad
  rw [e, e2, ← dec_all]
  simp
/-! ### Lengths -/
theorem gcd_len (m n : Nat) : (digs (Nat.gcd m n)).length ≤ (digs m).length + (digs n).length := by
  by_cases hm : m = 0
  · rw [hm, Nat.gcd_zero_left]
    omega
  · have := len_of_lt (Nat.gcd_le_left n (show 0 < m by omega))
    omega
end Go.VN


namespace Go.VN
open Go.RowKit
set_option linter.unusedVariables false
theorem itoa_len (d : Int) (h0 : 0 ≤ d) (h : d < 10000) : (Lib.itoa d).length ≤ 4 := itoa4 h0 h
theorem ofNat_toNat (n : Nat) (h : n < 256) : (UInt8.ofNat n).toNat = n := by
  rw [UInt8.toNat_ofNat']
  omega
theorem dec_decDigits (n : Nat) : Dec (Lib.decDigits n) := by
  induction n using Nat.strongRecOn with
  | ind n ih =>
    unfold Lib.decDigits
    split
    · intro c hc
      rw [List.mem_singleton.1 hc, ofNat_toNat _ (by omega)]
      omega
    · intro c hc
      rcases List.mem_append.1 hc with h | h
      · exact ih (n / 10) (by omega) c h
      · rw [List.mem_singleton.1 h, ofNat_toNat _ (by omega)]
        omega
theorem dv_decDigits (n : Nat) : dv (Lib.decDigits n) = n := by
  induction n using Nat.strongRecOn with
  | ind n ih =>
    unfold Lib.decDigits
    split
    · show 0 * 10 + ((UInt8.ofNat (48 + n)).toNat - 48) = n
      rw [ofNat_toNat _ (by omega)]
      omega
    · rw [dv_snoc, ih (n / 10) (by omega), ofNat_toNat _ (by omega)]
      omega
theorem decDigits_ne (n : Nat) : Lib.decDigits n ≠ [] := by
  unfold Lib.decDigits
  split <;> simp
theorem decDigits_head (n : Nat) (h : 0 < n) : (Lib.decDigits n).head? ≠ some 48 := by
  induction n using Nat.strongRecOn with
  | ind n ih =>
    unfold Lib.decDigits
    split
    · intro e
      simp only [List.head?_cons, Option.some.injEq] at e
      have := congrArg UInt8.toNat e
      rw [ofNat_toNat _ (by omega), show (48 : UInt8).toNat = 48 from rfl] at this
      omega
    · have := ih (n / 10) (by omega) (by omega)
      rw [List.head?_append]
      have hne := decDigits_ne (n / 10)
      cases hd : (Lib.decDigits (n / 10)).head? with
      | none => exact absurd (List.head?_eq_none_iff.1 hd) hne
      | some x => rw [hd] at this; exact this
theorem dv_zeros (m : Nat) (l : List UInt8) : dv (List.replicate m 48 ++ l) = dv l := by
  induction m with
  | zero => rfl
  | succ m ih => rw [List.replicate_succ, List.cons_append, dv_cons, ih]; simp
theorem dec_zeros (m : Nat) : Dec (List.replicate m 48) := by
  intro c hc
  rw [List.eq_of_mem_replicate hc]
  decide
theorem dec_join {a b : List UInt8} (ha : Dec a) (hb : Dec b) : Dec (a ++ b) := fun x hx => by
  rcases List.mem_append.1 hx with h | h
  · exact ha x h
  · exact hb x h
theorem pad4_form (d : Int) (h0 : 0 ≤ d) (h1 : d < 10000) : pad4 d = List.replicate (4 - (Lib.decDigits d.toNat).length) 48 ++ Lib.decDigits d.toNat := by
  obtain ⟨n, rfl⟩ := Int.eq_ofNat_of_zero_le h0
  unfold pad4
  rw [itoa_nat, Int.toNat_natCast]
  congr 1
  show List.drop _ (List.replicate 4 48) = _
  rw [List.drop_replicate]
theorem dec_pad4 (d : Int) (h0 : 0 ≤ d) (h1 : d < 10000) : Dec (pad4 d) := by
  rw [pad4_form d h0 h1]
  exact dec_join (dec_zeros _) (dec_decDigits _)
theorem dv_pad4 (d : Int) (h0 : 0 ≤ d) (h1 : d < 10000) : (dv (pad4 d) : Int) = d := by
  rw [pad4_form d h0 h1, dv_zeros, dv_decDigits]
  omega
/-- Four places, written out. -/
def p4 (n : Nat) : List UInt8 := [UInt8.ofNat (48 + n / 1000 % 10), UInt8.ofNat (48 + n / 100 % 10), UInt8.ofNat (48 + n / 10 % 10), UInt8.ofNat (48 + n % 10)]
theorem p4_pad4 (n : Nat) (h : n < 10000) : pad4 (n : Int) = p4 n := by
  have hD : Dec (p4 n) := by
    intro c hc
    simp only [p4, List.mem_cons, List.not_mem_nil, or_false] at hc
    rcases hc with rfl | rfl | rfl | rfl <;> rw [ofNat_toNat _ (by omega)] <;> omega
  have hv : dv (p4 n) = n := by
    unfold p4
    rw [dv_cons, dv_cons, dv_cons, dv_cons]
    simp only [List.length_cons, List.length_nil]
    rw [ofNat_toNat _ (by omega), ofNat_toNat _ (by omega), ofNat_toNat _ (by omega), ofNat_toNat _ (by omega)]
    show _ + (_ + (_ + (_ + 0))) = n
    omega
  have := pad4_dv hD rfl
  rwa [hv] at this
theorem fmtL_snoc (l : List Int) (d : Int) : fmtL (l ++ [d]) = Lib.itoa d ++ l.reverse.flatMap pad4 := by
  unfold fmtL
  rw [List.reverse_append]
  rfl
theorem fmtL_back {l : List Int} (h : Dig l) (hl : l.getLast? ≠ some 0) (h0 : l ≠ []) : nums (fmtL l) = l ∧ Dec (fmtL l) ∧ fmtL l ≠ [] ∧ (fmtL l).head? ≠ some 48 ∧ (fmtL l).length ≤ 4 * l.length := by
  induction l with
  | nil => exact absurd rfl h0
  | cons c l ih =>
    have hc := h.head
    by_cases hn : l = []
    · subst hn
      have e : fmtL [c] = Lib.itoa c := by unfold fmtL; simp
      have hlen := itoa_len c hc.1 hc.2
      obtain ⟨n, rfl⟩ := Int.eq_ofNat_of_zero_le hc.1
      rw [e]
      rw [itoa_nat] at *
      have hne := decDigits_ne n
      have hn0 : 0 < n := by
        rcases Nat.eq_zero_or_pos n with h | h
        · subst h; simp at hl
        · exact h
      refine ⟨?_, dec_decDigits n, hne, decDigits_head n hn0, by simpa using hlen⟩
      rw [nums_cons _ hne, show (Lib.decDigits n).length - 4 = 0 by omega, List.drop_zero, List.take_zero, nums_nil, dv_decDigits]
    · have hl' : l.getLast? ≠ some 0 := by
        rw [List.getLast?_cons] at hl
        intro e
        rw [e] at hl
        exact hl rfl
      obtain ⟨i1, i2, i3, i4, i5⟩ := ih h.tail hl' hn
      rw [fmtL_cons c l hn]
      have hp := pad4_len hc.1 hc.2
      refine ⟨?_, dec_join i2 (dec_pad4 c hc.1 hc.2), by simp [i3], ?_, by rw [List.length_append, hp, List.length_cons]; omega⟩
      · rw [nums_cons _ (by simp [i3]), List.length_append, hp, Nat.add_sub_cancel, List.drop_left', List.take_left', i1, dv_pad4 c hc.1 hc.2]
        · rfl
        · rfl
      · rw [List.head?_append]
        cases hd : (fmtL l).head? with
        | none => exact absurd (List.head?_eq_none_iff.1 hd) i3
        | some x => rw [hd] at i4; exact i4
theorem parse_fmt {l : List Int} (h : validB l = true) : parseL (fmtL l) = (l, 0) := by
  unfold validB at h
  simp only [Bool.and_eq_true, decide_eq_true_eq, Bool.not_eq_true', beq_eq_false_iff_ne, List.all_eq_true] at h
  obtain ⟨⟨h1, h2⟩, h3⟩ := h
  by_cases h0 : l = []
  · subst h0
    have e : fmtL [] = [48] := rfl
    have e2 : nums [48] = [0] := by rw [nums_cons _ (by simp)]; simp [nums_nil, dv, dvF]
    unfold parseL
    rw [e, e2]
    rfl
  · obtain ⟨i1, i2, i3, i4, i5⟩ := fmtL_back (l := l) h3 h2 h0
    unfold parseL
    have hb : bad (fmtL l) = false := by
      unfold bad
      rw [dec_all.2 i2]
      have : (fmtL l).isEmpty = false := by simpa using i3
      rw [this]
      have h4 : ((fmtL l).head? == some 48) = false := by simpa using i4
      rw [h4]
      simp
    rw [hb, if_neg (by decide), if_neg (by omega), i1]
    have := norm_digs (l := l) h3 h2
    rw [this, tr_digs_id]
/-- The last places of four. -/
theorem p4_step {d0 j : Nat} (hj : j < 4) (h : d0 < 10000) : UInt8.ofNat (48 + d0 / 10 ^ j % 10) :: (p4 d0).drop (4 - j) = (p4 d0).drop (4 - (j + 1)) := by
  obtain rfl | rfl | rfl | rfl : j = 0 ∨ j = 1 ∨ j = 2 ∨ j = 3 := by omega
  all_goals simp [p4]
theorem flat_pad4_len {l : List Int} (h : Dig l) : (l.flatMap pad4).length = 4 * l.length := by
  induction l with
  | nil => rfl
  | cons d l ih =>
    rw [List.flatMap_cons, List.length_append, ih h.tail, pad4_len h.head.1 h.head.2, List.length_cons]
    omega
/-- A text without the zeros ahead; one byte stays. -/
def stripZ : List UInt8 → List UInt8
  | c :: d :: l => if c = 48 then stripZ (d :: l) else c :: d :: l
  | l => l
theorem stripZ_cons (c : UInt8) {l : List UInt8} (h : l ≠ []) : stripZ (48 :: l) = stripZ l := by
  cases l with
  | nil => exact absurd rfl h
  | cons d l => rw [stripZ, if_pos rfl]
theorem stripZ_stop {l : List UInt8} (h : l.length ≤ 1 ∨ l.getD 0 0 ≠ 48) : stripZ l = l := by
  match l, h with
  | [], _ => rfl
  | [_], _ => rfl
  | c :: d :: l, h =>
    rcases h with h | h
    · simp at h
    · rw [stripZ, if_neg (by simpa using h)]
theorem stripZ_rep (k : Nat) {l : List UInt8} (h : l ≠ []) : stripZ (List.replicate k 48 ++ l) = stripZ l := by
  induction k with
  | zero => rfl
  | succ k ih => rw [List.replicate_succ, List.cons_append, stripZ_cons 48 (by simp [h]), ih]
theorem strip_fmt {a : List Int} (h : validB a = true) : (a = [] → stripZ (a.reverse.flatMap pad4) = []) ∧ (a ≠ [] → stripZ (a.reverse.flatMap pad4) = fmtL a ∧ fmtL a ≠ []) := by
  refine ⟨fun e => by subst e; rfl, fun e => ?_⟩
  obtain ⟨la, da, nz⟩ := validB_parts h
  rcases List.eq_nil_or_concat a with e' | ⟨l, d, e'⟩
  · exact absurd e' e
  · rw [List.concat_eq_append] at e'
    subst e'
    have hd := da d (by simp)
    have h0 : d ≠ 0 := fun e0 => by subst e0; simp at nz
    obtain ⟨n, rfl⟩ := Int.eq_ofNat_of_zero_le hd.1
    have hn : 0 < n := by omega
    have hne := decDigits_ne n
    rw [fmtL_snoc, List.reverse_append, List.reverse_singleton, List.singleton_append, List.flatMap_cons, pad4_form _ hd.1 hd.2, Int.toNat_natCast, List.append_assoc, stripZ_rep _ (by simp [hne]), itoa_nat]
    refine ⟨stripZ_stop (.inr ?_), by simp [hne]⟩
    have hh := decDigits_head n hn
    cases hc : Lib.decDigits n with
    | nil => exact absurd hc hne
    | cons x r => rw [hc] at hh; simpa using hh
end Go.VN


namespace Go.VN
open Go.RowKit Go.VL
set_option linter.unusedVariables false
abbrev FrN := Bool × List Int × List Int
def eF (f : FrN) : List PV := [.bool f.1, slc eI f.2.1, slc eI f.2.2]
abbrev ft (f : FrN) : PA := .agg (eF f)
abbrev fr (r : FrN × Int) : PA := .tup [(true, eF r.1), (false, [.int .i64 r.2])]
def eP (p : List Int × List Int) : List PV := [slc eI p.1, slc eI p.2]
abbrev zF : FrN := (false, [], [])
def nm (f : FrN) : Nat := (val f.2.1).toNat
def dn (f : FrN) : Nat := (val f.2.2).toNat
def validF (f : FrN) : Bool := validB f.2.1 && validB f.2.2 && !f.2.2.isEmpty && !(f.2.1.isEmpty && f.1) && decide (Nat.gcd (nm f) (dn f) = 1)
def redN (neg : Bool) (p q : Nat) : FrN := (neg && !decide (p / Nat.gcd p q = 0), digs (p / Nat.gcd p q), digs (q / Nat.gcd p q))
def fits (n : Nat) : Bool := decide ((digs n).length ≤ 200)
theorem fit_fits {n : Nat} (h : fits n = true) : fit n = (digs n, 0) := by
  unfold fits at h
  unfold fit
  simp only [decide_eq_true_eq] at h
  rw [if_neg (by omega)]
theorem fit_not {n : Nat} (h : ¬ fits n = true) : fit n = ([], 3) := by
  unfold fits at h
  unfold fit
  simp only [decide_eq_true_eq] at h
  rw [if_pos (by omega)]
theorem digs_inj {m n : Nat} (h : digs m = digs n) : m = n := by
  have h1 := congrArg val h
  rw [val_digs, val_digs] at h1
  omega
theorem digs_empty (n : Nat) : (digs n).isEmpty = decide (n = 0) := by
  rw [Bool.eq_iff_iff]
  simp [digs_nil]
theorem valid_N' (n : Nat) (h : (digs n).length ≤ 200) : validB (digs n) = true := by
  have := valid_tr (dig_digs n) (by rw [tr_digs_id]; exact h)
  rwa [tr_digs_id] at this
/-- A valid fraction, told in numbers. -/
structure VF (f : FrN) : Prop where
  num : f.2.1 = digs (nm f)
  den : f.2.2 = digs (dn f)
  pos : 0 < dn f
  cop : Nat.gcd (nm f) (dn f) = 1
  sig : nm f = 0 → f.1 = false
  ln : (digs (nm f)).length ≤ 200
  ld : (digs (dn f)).length ≤ 200
theorem validF_VF {f : FrN} (h : validF f = true) : VF f := by
  unfold validF at h
  simp only [Bool.and_eq_true, Bool.not_eq_true', decide_eq_true_eq] at h
  obtain ⟨⟨⟨⟨h1, h2⟩, h3⟩, h4⟩, h5⟩ := h
  obtain ⟨l1, d1, z1⟩ := validB_parts h1
  obtain ⟨l2, d2, z2⟩ := validB_parts h2
  have e1 : f.2.1 = digs (nm f) := norm_digs d1 z1
  have e2 : f.2.2 = digs (dn f) := norm_digs d2 z2
  refine ⟨e1, e2, ?_, h5, fun h0 => ?_, by rw [← e1]; exact l1, by rw [← e2]; exact l2⟩
  · rcases Nat.eq_zero_or_pos (dn f) with h0 | h0
    · rw [e2, digs_empty, h0] at h3; simp at h3
    · exact h0
  · rw [e1, digs_empty, h0] at h4
    simpa using h4
theorem VF.valid {f : FrN} (h : VF f) : validF f = true := by
  unfold validF
  have h1 : validB f.2.1 = true := by rw [h.num]; exact valid_N' _ h.ln
  have h2 : validB f.2.2 = true := by rw [h.den]; exact valid_N' _ h.ld
  have h3 : f.2.2.isEmpty = false := by rw [h.den, digs_empty]; simpa using Nat.pos_iff_ne_zero.1 h.pos
  have h4 : (f.2.1.isEmpty && f.1) = false := by
    rw [h.num, digs_empty]
    by_cases h0 : nm f = 0
    · rw [h.sig h0]; simp
    · simp [h0]
  have h5 := h.cop
  simp [h1, h2, h3, h4, h5]
theorem nm_mk (b : Bool) (p q : Nat) : nm (b, digs p, digs q) = p := by unfold nm; rw [val_digs]; rfl
theorem dn_mk (b : Bool) (p q : Nat) : dn (b, digs p, digs q) = q := by unfold dn; rw [val_digs]; rfl
theorem VF.eta {f : FrN} (h : VF f) : f = (f.1, digs (nm f), digs (dn f)) := by
  rw [← h.num, ← h.den]
theorem VF.mk' {b : Bool} {p q : Nat} (h0 : 0 < q) (h1 : Nat.gcd p q = 1) (h2 : p = 0 → b = false) (h3 : (digs p).length ≤ 200) (h4 : (digs q).length ≤ 200) : VF (b, digs p, digs q) := by
  refine ⟨?_, ?_, ?_, ?_, ?_, ?_, ?_⟩ <;> simp only [nm_mk, dn_mk] <;> assumption
theorem red_VF {b : Bool} {p q : Nat} (h0 : 0 < q) (lp : (digs p).length ≤ 200) (lq : (digs q).length ≤ 200) : VF (redN b p q) := by
  have hg : 0 < Nat.gcd p q := Nat.gcd_pos_of_pos_right p h0
  refine VF.mk' (Nat.div_pos (Nat.gcd_le_right p h0) hg) (Nat.gcd_div_gcd_div_gcd_of_pos_right h0) (fun h => by simp [h]) (Nat.le_trans (len_of_lt (Nat.div_le_self _ _)) lp) (Nat.le_trans (len_of_lt (Nat.div_le_self _ _)) lq)
/-- A fraction in lowest terms stays as it is. -/
theorem red_id {f : FrN} (h : VF f) : redN f.1 (nm f) (dn f) = f := by
  unfold redN
  rw [h.cop, Nat.div_one, Nat.div_one, ← h.num, ← h.den]
  have : (f.1 && !decide (nm f = 0)) = f.1 := by
    by_cases h0 : nm f = 0
    · rw [h.sig h0]; rfl
    · simp [h0]
  rw [this]
/-- What Valid still asks behind its first test. -/
theorem validF_gcd {b : Bool} {p q : List Int} (h1 : validB p = true) (h2 : validB q = true) (h3 : q.isEmpty = false) (h4 : (p.isEmpty && b) = false) : validF (b, p, q) = decide (Nat.gcd (val p).toNat (val q).toNat = 1) := by
  unfold validF nm dn
  simp [h1, h2, h3, h4]
theorem cmp_one (n : Nat) : decide (cmpL (digs n) (digs 1) = 0) = decide (n = 1) := by
  rw [Bool.eq_iff_iff]
  rw [decide_eq_true_eq, decide_eq_true_eq]
  exact ⟨fun h => digs_inj (cmpL_zero h), fun h => by rw [h]; exact cmpL_self _⟩
/-! ### The answers -/
def addN (s : Bool) (m n : Nat) (t : Bool) (p q : Nat) : FrN × Int :=
  if fits (m * q) = true ∧ fits (p * n) = true ∧ fits (n * q) = true then
    (if s = t then (if fits (m * q + p * n) = true then (redN s (m * q + p * n) (n * q), 0) else (zF, 3))
     else if m * q < p * n then (redN t (p * n - m * q) (n * q), 0) else (redN s (m * q - p * n) (n * q), 0))
  else (zF, 3)
def mulN (s : Bool) (m n : Nat) (t : Bool) (p q : Nat) : FrN × Int :=
  if fits (m * p) = true ∧ fits (n * q) = true then (redN (s != t) (m * p) (n * q), 0) else (zF, 3)
def addF (f g : FrN) : FrN × Int := if validF f = true ∧ validF g = true then addN f.1 (nm f) (dn f) g.1 (nm g) (dn g) else (zF, 1)
def oppF (f : FrN) : FrN := (!f.1 && !f.2.1.isEmpty, f.2.1, f.2.2)
def subF (f g : FrN) : FrN × Int := if validF f = true ∧ validF g = true then addF f (oppF g) else (zF, 1)
def mulF (f g : FrN) : FrN × Int := if validF f = true ∧ validF g = true then mulN f.1 (nm f) (dn f) g.1 (nm g) (dn g) else (zF, 1)
def divF (f g : FrN) : FrN × Int := if validF f = true ∧ validF g = true then (if g.2.1.isEmpty = true then (zF, 6) else mulN f.1 (nm f) (dn f) g.1 (dn g) (nm g)) else (zF, 1)
def newF (a b : List Int) : FrN × Int := if validB a = true ∧ validB b = true then (if b.isEmpty = true then (zF, 6) else (redN false (val a).toNat (val b).toNat, 0)) else (zF, 1)
def ofF (a b : Int) : FrN × Int := if b = 0 then (zF, 6) else if a > 1000000000000000 ∨ b > 1000000000000000 ∨ a < -1000000000000000 ∨ b < -1000000000000000 then (zF, 3) else (redN (decide (a < 0) != decide (b < 0)) a.natAbs b.natAbs, 0)
/-- Products of pairs. -/
def prodR : List (List Int × List Int) → List (List Int) × Int
  | [] => ([], 0)
  | p :: l => if (mulR p.1 p.2).2 ≠ 0 then ([], (mulR p.1 p.2).2) else if (prodR l).2 ≠ 0 then ([], (prodR l).2) else ((mulR p.1 p.2).1 :: (prodR l).1, 0)
theorem prodR_ok : ∀ {l : List (List Int × List Int)}, (∀ p ∈ l, (mulR p.1 p.2).2 = 0) → prodR l = (l.map fun p => (mulR p.1 p.2).1, 0)
  | [], _ => rfl
  | p :: l, h => by
    rw [prodR, prodR_ok fun q hq => h q (List.mem_cons_of_mem _ hq), if_neg (by rw [h p (by simp)]; simp)]
    simp
theorem prodR_bad : ∀ {l : List (List Int × List Int)} {i : Nat} {p : List Int × List Int}, l[i]? = some p → (∀ q ∈ l.take i, (mulR q.1 q.2).2 = 0) → (mulR p.1 p.2).2 ≠ 0 → prodR l = ([], (mulR p.1 p.2).2)
  | [], i, p, h, _, _ => by simp at h
  | q :: l, 0, p, h, _, hp => by
    simp at h
    subst h
    rw [prodR, if_pos hp]
  | q :: l, i + 1, p, h, hq, hp => by
    have := prodR_bad (l := l) (i := i) (by simpa using h) (fun x hx => hq x (by simp [hx])) hp
    rw [prodR, if_neg (by rw [hq q (by simp)]; simp), this]
    simp [hp]
theorem mulR_N {m n : Nat} (hm : (digs m).length ≤ 200) (hn : (digs n).length ≤ 200) : mulR (digs m) (digs n) = if fits (m * n) = true then (digs (m * n), 0) else ([], 3) := by
  unfold mulR fit fits
  rw [if_pos ⟨valid_N' m hm, valid_N' n hn⟩, val_digs, val_digs, ← Int.natCast_mul, Int.toNat_natCast]
  by_cases h : (digs (m * n)).length ≤ 200
  · rw [if_neg (by omega), if_pos (by simpa using h)]
  · rw [if_pos (by omega), if_neg (by simpa using h)]
theorem prod2 {a b c d : Nat} (ha : (digs a).length ≤ 200) (hb : (digs b).length ≤ 200) (hc : (digs c).length ≤ 200) (hd : (digs d).length ≤ 200) :
    prodR [(digs a, digs b), (digs c, digs d)] = if fits (a * b) = true ∧ fits (c * d) = true then ([digs (a * b), digs (c * d)], 0) else ([], 3) := by
  simp only [prodR, mulR_N ha hb, mulR_N hc hd]
  by_cases h1 : fits (a * b) = true <;> by_cases h2 : fits (c * d) = true <;> simp [h1, h2]
theorem prod3 {a b c d x y : Nat} (ha : (digs a).length ≤ 200) (hb : (digs b).length ≤ 200) (hc : (digs c).length ≤ 200) (hd : (digs d).length ≤ 200) (hx : (digs x).length ≤ 200) (hy : (digs y).length ≤ 200) :
    prodR [(digs a, digs b), (digs c, digs d), (digs x, digs y)] = if fits (a * b) = true ∧ fits (c * d) = true ∧ fits (x * y) = true then ([digs (a * b), digs (c * d), digs (x * y)], 0) else ([], 3) := by
  simp only [prodR, mulR_N ha hb, mulR_N hc hd, mulR_N hx hy]
  by_cases h1 : fits (a * b) = true <;> by_cases h2 : fits (c * d) = true <;> by_cases h3 : fits (x * y) = true <;> simp [h1, h2, h3]
theorem fits_le {n : Nat} (h : fits n = true) : (digs n).length ≤ 200 := by simpa [fits] using h
theorem cmp_lt (m n : Nat) : cmpL (digs m) (digs n) < 0 ↔ m < n := by
  rw [cmp_digs]; unfold sgn
  by_cases h1 : (m : Int) < n
  · rw [if_pos h1]; omega
  · by_cases h2 : (m : Int) > n
    · rw [if_neg h1, if_pos h2]; omega
    · rw [if_neg h1, if_neg h2]; omega
end Go.VN


namespace Go.VL
open Go.RowKit
section
variable {X : Ctx} {f : FuncId}
/-- Of a string and a whole number. -/
theorem spc_strInt {s : List UInt8} {z : Int} {res : PA} (ent : Ent X.P f) (h : ∀ w, X.G w → s.length ≤ 9223372036854775807 → -9223372036854775808 ≤ z → z ≤ 9223372036854775807 → Calls X.P f #[.string ⟨s.toArray⟩, .int .i64 z] w fun e w' => ∃ u, e = .returned u ∧ RepV w' (fun _ => False) β0 res.av u ∧ Below w.heap.size w w') : Spc X f [.one (.str s), .one (.int .i64 z)] res :=
  spc_calls ent fun ok w vals hG hlt hs hv => by
    obtain ⟨u, hu, hr⟩ := hv 0 _ rfl
    obtain ⟨v, hv, hq⟩ := hv 1 _ rfl
    obtain ⟨rfl, hz⟩ := one_str hr
    obtain ⟨rfl, hy⟩ := one_int hq
    rw [range_i64] at hy
    rw [vals2 hs hu hv]
    exact h w hG hz hy.1 hy.2
end
end Go.VL
namespace Go.VN
open Go.RowKit Go.VL
set_option linter.unusedVariables false
/-- What stands ahead of a byte's first place. -/
def cutL (c : UInt8) (s : List UInt8) : List UInt8 := s.takeWhile (· != c)
theorem indexByte_cut (c : UInt8) : ∀ s : List UInt8, (c ∈ s → Lib.indexByte s c = ((cutL c s).length : Int) ∧ s = cutL c s ++ c :: s.drop ((cutL c s).length + 1)) ∧ (c ∉ s → Lib.indexByte s c = -1 ∧ cutL c s = s)
  | [] => ⟨fun h => (by cases h), fun _ => ⟨rfl, rfl⟩⟩
  | x :: s => by
    obtain ⟨h1, h2⟩ := indexByte_cut c s
    by_cases hx : x = c
    · subst hx
      refine ⟨fun _ => ?_, fun h => absurd (by simp) h⟩
      simp [Lib.indexByte, cutL]
    · have e : cutL c (x :: s) = x :: cutL c s := by unfold cutL; rw [List.takeWhile_cons, if_pos (by simpa using hx)]
      refine ⟨fun h => ?_, fun h => ?_⟩
      · have hm : c ∈ s := by
          rcases List.mem_cons.1 h with h | h
          · exact absurd h.symm hx
          · exact h
        obtain ⟨h3, h4⟩ := h1 hm
        rw [e]
        refine ⟨?_, ?_⟩
        · rw [Lib.indexByte, if_neg (by simpa using hx), h3, if_neg (fun e => by have := eq_of_beq e; omega), List.length_cons]
          omega
        · rw [List.length_cons, List.drop_succ_cons, List.cons_append, ← h4]
      · have hm : c ∉ s := fun hm => h (List.mem_cons_of_mem _ hm)
        obtain ⟨h3, h4⟩ := h2 hm
        rw [e, h4]
        refine ⟨?_, rfl⟩
        rw [Lib.indexByte, if_neg (by simpa using hx), h3]
        rfl
theorem cutL_app {c : UInt8} {a : List UInt8} (h : c ∉ a) (b : List UInt8) : cutL c (a ++ c :: b) = a := by
  unfold cutL
  induction a with
  | nil => simp
  | cons x a ih =>
    have hx : x ≠ c := fun e => h (by simp [e])
    rw [List.cons_append, List.takeWhile_cons, if_pos (by simpa using hx), ih (fun hm => h (List.mem_cons_of_mem _ hm))]
theorem cutL_all {c : UInt8} {a : List UInt8} (h : c ∉ a) : cutL c a = a := ((indexByte_cut c a).2 h).2
theorem cut_at {c : UInt8} {t : List UInt8} {i : Nat} (hi : i ≤ t.length) (hn : c ∉ t.take i) (h : i = t.length ∨ t[i]? = some c) : t.take i = cutL c t ∧ (cutL c t).length = i ∧ (c ∈ t ↔ i < t.length) := by
  have key : cutL c t = t.take i ∧ (c ∈ t ↔ i < t.length) := by
    rcases h with h | h
    · subst h
      rw [List.take_length] at hn ⊢
      exact ⟨cutL_all hn, fun h => absurd h hn, fun h => by omega⟩
    · obtain ⟨h1, h2⟩ := List.getElem?_eq_some_iff.1 h
      have e : t = t.take i ++ c :: t.drop (i + 1) := by
        conv => lhs; rw [← List.take_append_drop i t]
        rw [List.drop_eq_getElem_cons h1, h2]
      refine ⟨?_, fun _ => h1, fun _ => by rw [← h2]; exact List.getElem_mem h1⟩
      conv => lhs; rw [e]
      exact cutL_app hn _
  refine ⟨key.1.symm, ?_, key.2⟩
  rw [key.1, List.length_take]; omega
/-! ### The text of a fraction -/
def fmtB (f : FrN) : List UInt8 := (if f.1 = true then [45] else []) ++ fmtL f.2.1 ++ (if f.2.2 = [1] then [] else [47] ++ fmtL f.2.2)
def fmtF (f : FrN) : List UInt8 × Int := if validF f = true then (fmtB f, 0) else ([], 1)
def restS (s : List UInt8) : List UInt8 := if s.head? = some 45 then s.drop 1 else s
def denS (t : List UInt8) : List UInt8 := if 47 ∈ t then t.drop ((cutL 47 t).length + 1) else [49]
def outS (s : List UInt8) : FrN := (decide (s.head? = some 45), (parseL (cutL 47 (restS s))).1, (parseL (denS (restS s))).1)
def parseF (s : List UInt8) : FrN × Int :=
  if (parseL (cutL 47 (restS s))).2 ≠ 0 ∨ (parseL (denS (restS s))).2 ≠ 0 then (zF, 2)
  else if (fmtF (outS s)).2 ≠ 0 ∨ (fmtF (outS s)).1 ≠ s then (zF, 2) else (outS s, 0)
theorem fmtL_dec {a : List Int} (h : validB a = true) : Dec (fmtL a) ∧ fmtL a ≠ [] ∧ (fmtL a).length ≤ 4 * a.length + 1 := by
  obtain ⟨la, da, nz⟩ := validB_parts h
  by_cases h0 : a = []
  · subst h0
    exact ⟨fun c hc => by (have h48 : c = 48 := by simpa [fmtL] using hc); subst h48; decide, by decide, by decide⟩
  · obtain ⟨_, h1, h2, _, h3⟩ := fmtL_back da nz h0
    exact ⟨h1, h2, by omega⟩
theorem dec_no {a : List UInt8} (h : Dec a) {c : UInt8} (hc : c.toNat < 48) : c ∉ a := fun hm => by have := (h c hm).1; omega
theorem dec_head {a : List UInt8} (h : Dec a) {c : UInt8} (hc : c.toNat < 48) (b : List UInt8) (h0 : a ≠ []) : (a ++ b).head? ≠ some c := by
  cases a with
  | nil => exact absurd rfl h0
  | cons x a =>
    intro e
    simp at e
    subst e
    exact dec_no h hc (by simp)
theorem parse_one : parseL [49] = ([1], 0) := by
  have : parseL (fmtL [1]) = ([1], 0) := parse_fmt (by decide)
  have e : fmtL [1] = [49] := by simp [fmtL, Lib.itoa, Lib.decDigits]
  rwa [e] at this
theorem fmt_one {b : List Int} (h : validB b = true) : fmtL b = [49] ↔ b = [1] := by
  constructor
  · intro e
    have h1 := parse_fmt h
    rw [e, parse_one] at h1
    exact (congrArg Prod.fst h1).symm
  · intro e; subst e; simp [fmtL, Lib.itoa, Lib.decDigits]
theorem dec_tail {b : List Int} (h : validB b = true) : 47 ∉ fmtL b := dec_no (fmtL_dec h).1 (by decide)
/-- A valid fraction's text leads back. -/
theorem parse_text {f : FrN} (h : validF f = true) : parseF (fmtF f).1 = (f, 0) := by
  have hv := h
  unfold validF at h
  simp only [Bool.and_eq_true] at h
  obtain ⟨⟨⟨⟨ha, hb⟩, _⟩, _⟩, _⟩ := h
  obtain ⟨s, a, b⟩ := f
  simp only at ha hb
  have e0 : fmtF (s, a, b) = (fmtB (s, a, b), 0) := by unfold fmtF; rw [if_pos hv]
  have hda := fmtL_dec ha
  have na : 47 ∉ fmtL a := dec_tail ha
  have eR : restS (fmtB (s, a, b)) = fmtL a ++ (if b = [1] then [] else [47] ++ fmtL b) ∧ decide ((fmtB (s, a, b)).head? = some 45) = s := by
    unfold restS fmtB
    cases s with
    | true => simp
    | false =>
      have := dec_head hda.1 (c := 45) (by decide) (if b = [1] then [] else [47] ++ fmtL b) hda.2.1
      simp only [Bool.false_eq_true, if_false, List.nil_append]
      rw [if_neg this]
      exact ⟨rfl, decide_eq_false this⟩
  have eC : cutL 47 (restS (fmtB (s, a, b))) = fmtL a ∧ parseL (denS (restS (fmtB (s, a, b)))) = (b, 0) := by
    rw [eR.1]
    by_cases h1 : b = [1]
    · rw [if_pos h1, List.append_nil, cutL_all na]
      refine ⟨rfl, ?_⟩
      unfold denS
      rw [if_neg na, parse_one, h1]
    · rw [if_neg h1]
      have e1 : cutL 47 (fmtL a ++ ([47] ++ fmtL b)) = fmtL a := cutL_app na _
      refine ⟨e1, ?_⟩
      unfold denS
      rw [if_pos (by simp), e1]
      have : (fmtL a ++ ([47] ++ fmtL b)).drop ((fmtL a).length + 1) = fmtL b := by
        rw [List.drop_append]
        simp
      rw [this]
      exact parse_fmt hb
  have eO : outS (fmtB (s, a, b)) = (s, a, b) := by
    unfold outS
    rw [eR.2, eC.1, eC.2, parse_fmt ha]
  unfold parseF
  rw [e0, eC.1, eC.2, parse_fmt ha, eO, e0]
  simp
/-- What Parse accepts has this text. -/
theorem parse_back {s : List UInt8} (h : (parseF s).2 = 0) : validF (parseF s).1 = true ∧ fmtF (parseF s).1 = (s, 0) := by
  unfold parseF at h ⊢
  by_cases h1 : (parseL (cutL 47 (restS s))).2 ≠ 0 ∨ (parseL (denS (restS s))).2 ≠ 0
  · rw [if_pos h1] at h; cases h
  · rw [if_neg h1] at h ⊢
    by_cases h2 : (fmtF (outS s)).2 ≠ 0 ∨ (fmtF (outS s)).1 ≠ s
    · rw [if_pos h2] at h; cases h
    · rw [if_neg h2]
      rw [not_or, Decidable.not_not, Decidable.not_not] at h2
      refine ⟨?_, Prod.ext h2.2 h2.1⟩
      unfold fmtF at h2
      by_cases hv : validF (outS s) = true
      · exact hv
      · rw [if_neg hv] at h2; exact absurd h2.1 (by decide)
end Go.VN


namespace Go.VN
open Go.RowKit Go.VL
set_option linter.unusedVariables false
abbrev Snd := Int × Int × List UInt8
abbrev Sgn := List UInt8 × List Snd × Int × Int
abbrev Ort := List UInt8 × List Sgn
def eSd (s : Snd) : List PV := [.int .i64 s.1, .int .i64 s.2.1, .str s.2.2]
def eSg (s : Sgn) : List PV := [.str s.1, slc eSd s.2.1, .int .i64 s.2.2.1, .int .i64 s.2.2.2]
def eO (o : Ort) : List PV := [.str o.1, slc eSg o.2]
abbrev zSd : Snd := (0, 0, [])
abbrev zSg : Sgn := ([], [], 0, 0)
abbrev zO : Ort := ([], [])
/-! ### Names and numbers -/
def sml (c : UInt8) : Bool := decide (97 ≤ c.toNat) && decide (c.toNat ≤ 122)
def dgt (c : UInt8) : Bool := decide (48 ≤ c.toNat) && decide (c.toNat ≤ 57)
def nm2 : List UInt8 → Nat
  | [] => 0
  | [c] => if (sml c || dgt c) = true then 1 else 0
  | c :: d :: l => if (sml c || dgt c) = true then 1 + nm2 (d :: l) else if c = 45 ∧ (sml d || dgt d) = true then 2 + nm2 l else 0
def nmL (s : List UInt8) : Nat := match s with | [] => 0 | c :: l => if sml c = true then 1 + nm2 l else 0
def isNm (s : List UInt8) : Bool := !s.isEmpty && decide (s.length ≤ 20) && decide (nmL s = s.length)
def digL : List UInt8 → Nat
  | [] => 0
  | c :: l => if dgt c = true then 1 + digL l else 0
def badN (s : List UInt8) : Bool := s.isEmpty || decide (6 < s.length) || decide (digL s ≠ s.length) || (decide (1 < s.length) && decide (s.head? = some 48))
def numF (s : List UInt8) : Int × Bool := if badN s = true then (0, false) else (dv s, true)
/-! ### Sounds -/
def wrt (c : UInt8) : Bool := sml c || dgt c || decide (c = 95) || decide (c = 94) || decide (c = 39)
def nuc (s : Snd) : Bool := decide (s.1 = 1) || decide (s.1 = 2)
def qty (s : Snd) : Bool := if s.1 = 1 then decide (1 ≤ s.2.1) && decide (s.2.1 ≤ 3) else if s.1 = 2 then decide (s.2.1 = 2) else decide (s.2.1 = 0)
def sdE (s : Snd) : Int := if s.1 < 1 ∨ 9 < s.1 then 1 else if qty s = false then 6 else if s.2.2 = [] then 7 else if 8 < s.2.2.length then 3 else if s.2.2.all wrt = true then 0 else 2
abbrev ltrs : List UInt8 := [118, 100, 109, 108, 110, 115, 120, 103, 98]
def sdT (s : Snd) : List UInt8 := s.2.2 ++ [47] ++ [ltrs.getD (s.1 - 1).toNat 0] ++ (if nuc s = true then [UInt8.ofNat (48 + s.2.1.toNat)] else [])
def joinS : List (List UInt8) → List UInt8
  | [] => []
  | [x] => x
  | x :: y :: l => x ++ [32] ++ joinS (y :: l)
def sdsT (l : List Snd) : List UInt8 := joinS (l.map sdT)
def firstE (l : List Snd) : Int := match l with | [] => 0 | s :: l => if sdE s ≠ 0 then sdE s else firstE l
def fmtSd (l : List Snd) : List UInt8 × Int := if 200 < l.length then ([], 3) else if firstE l ≠ 0 then ([], firstE l) else (sdsT l, 0)
def consH (x : UInt8) : List (List UInt8) → List (List UInt8)
  | [] => [[x]]
  | y :: l => (x :: y) :: l
def spK (k : Bool) (c : UInt8) : List UInt8 → List (List UInt8)
  | [] => [[]]
  | x :: s => if x = c then (if k = true then [c] else []) :: spK k c s else consH x (spK k c s)
abbrev splitL (c : UInt8) (s : List UInt8) : List (List UInt8) := spK false c s
def idxB (l : List UInt8) (c : UInt8) : Int := Lib.indexByte l c
/-- The sound with a text, and whether there is one: as the program tells it. -/
def rdF (w : List UInt8) : Snd × Bool :=
  if 47 ∈ w ∧ w.drop ((cutL 47 w).length + 1) ≠ [] then
    let t := w.drop ((cutL 47 w).length + 1)
    let x : Snd := (Lib.indexByte ltrs (t.getD 0 0) + 1, 0, cutL 47 w)
    if nuc x = true then (if t.length = 2 ∧ 49 ≤ (t.getD 1 0).toNat ∧ (t.getD 1 0).toNat ≤ 51 then (let y : Snd := (x.1, ((t.getD 1 0).toNat : Int) - 48, x.2.2); (y, decide (sdE y = 0))) else (zSd, false))
    else if t.length = 1 then (x, decide (sdE x = 0)) else (zSd, false)
  else (zSd, false)
/-- .. as the reference tells it. -/
def rdG (w : List UInt8) : Snd × Bool :=
  if 47 ∈ w ∧ w.drop ((cutL 47 w).length + 1) ≠ [] then
    let t := w.drop ((cutL 47 w).length + 1)
    let x : Snd := (Lib.indexByte ltrs (t.getD 0 0) + 1, 0, cutL 47 w)
    if nuc x = true ∧ t.length = 2 ∧ 49 ≤ (t.getD 1 0).toNat ∧ (t.getD 1 0).toNat ≤ 51 then (let y : Snd := (x.1, ((t.getD 1 0).toNat : Int) - 48, x.2.2); (y, decide (sdE y = 0)))
    else (x, decide (t.length = 1) && decide (sdE x = 0))
  else (zSd, false)
def toO {α : Type} (p : α × Bool) : Option α := if p.2 = true then some p.1 else none
def rdS (w : List UInt8) : Option Snd := toO (rdF w)
def rdAll : List (List UInt8) → Option (List Snd)
  | [] => some []
  | w :: l => match rdS w, rdAll l with | some s, some t => some (s :: t) | _, _ => none
def prsSd (s : List UInt8) : List Snd × Int :=
  if 4000 < s.length then ([], 3) else if s = [] then ([], 0) else match rdAll (splitL 32 s) with | none => ([], 2) | some l => if 200 < l.length then ([], 2) else (l, 0)
/-! ### Signs -/
def ltr (c : UInt8) : Bool := decide (32 ≤ c.toNat) && decide (c.toNat ≤ 126) && !([32, 46, 44, 59, 58, 33, 63, 34, 45, 91, 93, 60, 62, 123, 125] : List UInt8).contains c
def upr (c : UInt8) : Bool := decide (65 ≤ c.toNat) && decide (c.toNat ≤ 90)
def txE (s : List UInt8) : Int := if s = [] then 7 else if 4 < s.length then 3 else if (s.all fun c => ltr c && !upr c) = true then 0 else 2
def sgE (s : Sgn) : Int :=
  if txE s.1 ≠ 0 then txE s.1 else if s.2.1 = [] then 7 else if 2 < s.2.1.length then 3 else if firstE s.2.1 ≠ 0 then firstE s.2.1
  else if s.2.2.1 < 0 ∨ 99 < s.2.2.1 ∨ s.2.2.2 < 0 ∨ 4 < s.2.2.2 then 6 else 0
def sameSg (a b : Sgn) : Bool := decide (a.1 = b.1) && decide (a.2.2.2 = b.2.2.2) && decide (a.2.1 = b.2.1)
/-- The first wrong sign, behind those that stand ahead. -/
def chkL : List Sgn → List Sgn → Int × Int
  | _, [] => (-1, 0)
  | p, s :: l => if sgE s ≠ 0 then (p.length, sgE s) else if (p.any fun t => sameSg t s) = true then (p.length, 5) else chkL (p ++ [s]) l
def chkO (o : Ort) : Int × Int := if isNm o.1 = false then (-1, 2) else if o.2 = [] then (-1, 7) else if 120 < o.2.length then (-1, 3) else chkL [] o.2
def begs (l : List Snd) : Bool := match l with | [] => false | s :: _ => nuc s
def ends (l : List Snd) : Bool := match l.getLast? with | none => false | some s => nuc s
def fitW (w : Int) (b a : List Snd) : Bool :=
  if w = 0 then true else if w = 1 then begs a else if w = 2 then begs a && b.isEmpty else if w = 3 then begs a && ends b else if w = 4 then !begs a else false
def fitsO (o : Ort) (i : Int) (b a : List Snd) : Bool := if i < 0 ∨ (o.2.length : Int) ≤ i then false else fitW (o.2.getD i.toNat zSg).2.2.2 b a
def findL (s : List UInt8) : Nat → List Sgn → List Int
  | _, [] => []
  | k, x :: l => if x.1 = s then (k : Int) :: findL s (k + 1) l else findL s (k + 1) l
def plcs : List (List UInt8) := [[97, 110, 121, 119, 104, 101, 114, 101], [98, 101, 102, 111, 114, 101], [115, 116, 97, 114, 116], [98, 101, 116, 119, 101, 101, 110], [110, 111, 116]]
def plc (w : Int) : List UInt8 := plcs.getD w.toNat []
abbrev wOrt : List UInt8 := [111, 114, 116, 104, 111, 103, 114, 97, 112, 104, 121]
def sgT (s : Sgn) : List UInt8 := s.1 ++ [32] ++ sdsT s.2.1 ++ [32] ++ Lib.itoa s.2.2.1 ++ [32] ++ plc s.2.2.2 ++ [10]
def ortT (o : Ort) : List UInt8 := wOrt ++ [32] ++ o.1 ++ [10] ++ o.2.flatMap sgT
def fmtO (o : Ort) : List UInt8 × Int := if (chkO o).2 ≠ 0 then ([], (chkO o).2) else (ortT o, 0)
def ixP {α : Type} (p : α → Bool) : List α → Int
  | [] => -1
  | x :: l => if p x = true then 0 else if ixP p l < 0 then -1 else ixP p l + 1
def sgMk (t : List UInt8) (sd : List Snd × Int) (nu : Int × Bool) (z : Int) : Option Sgn := if z < 0 ∨ sd.2 ≠ 0 ∨ sd.1 = [] ∨ nu.2 = false then none else some (t, sd.1, nu.1, z)
/-- The sign with a line's words. -/
def sgOf (l : List (List UInt8)) : Option Sgn :=
  if l.length < 4 ∨ l.head? = some [] then none
  else sgMk (l.getD 0 []) (prsSd (joinS ((l.drop 1).take (l.length - 3)))) (numF (l.getD (l.length - 2) [])) (ixP (fun y => decide (l.getD (l.length - 1) [] = y)) plcs)
end Go.VN


namespace Go.VN
open Go.RowKit Go.VL
set_option linter.unusedVariables false
theorem spK_hit (k : Bool) (c : UInt8) : ∀ {s : List UInt8}, c ∈ s → spK k c s = s.take ((cutL c s).length + k.toNat) :: spK k c (s.drop ((cutL c s).length + 1))
  | x :: s, h => by
    rw [spK]
    by_cases hx : x = c
    · subst hx
      rw [if_pos rfl]
      have e : cutL x (x :: s) = [] := by unfold cutL; simp
      rw [e]
      cases k <;> simp
    · rw [if_neg hx]
      have hm : c ∈ s := by rcases List.mem_cons.1 h with h | h; exact absurd h.symm hx; exact h
      have e : cutL c (x :: s) = x :: cutL c s := by
        unfold cutL
        rw [List.takeWhile_cons, if_pos (by simpa using hx)]
      rw [spK_hit k c hm, consH, e, List.length_cons, show (cutL c s).length + 1 + k.toNat = ((cutL c s).length + k.toNat) + 1 by omega, List.take_succ_cons, List.drop_succ_cons]
  | [], h => by simp at h
theorem spK_miss (k : Bool) (c : UInt8) : ∀ {s : List UInt8}, c ∉ s → spK k c s = [s]
  | [], _ => rfl
  | x :: s, h => by
    rw [List.mem_cons, not_or] at h
    rw [spK, if_neg (fun e => h.1 e.symm), spK_miss k c h.2]; rfl
theorem cutL_not (c : UInt8) : ∀ s : List UInt8, c ∉ cutL c s
  | [] => by simp [cutL]
  | x :: s => by
    have ih := cutL_not c s
    unfold cutL at ih ⊢
    rw [List.takeWhile_cons]
    by_cases h : x = c
    · subst h; simp
    · rw [if_pos (by simpa using h), List.mem_cons, not_or]
      exact ⟨fun e => h e.symm, ih⟩
theorem count_hit (c : UInt8) {s : List UInt8} (h : c ∈ s) : s.count c = (s.drop ((cutL c s).length + 1)).count c + 1 := by
  obtain ⟨_, h4⟩ := (indexByte_cut c s).1 h
  have hn := cutL_not c s
  conv => lhs; rw [h4]
  rw [List.count_append, List.count_cons_self, List.count_eq_zero_of_not_mem hn]
  omega
theorem cut_len (c : UInt8) {s : List UInt8} (h : c ∈ s) : (cutL c s).length + 1 ≤ s.length := by
  obtain ⟨_, h4⟩ := (indexByte_cut c s).1 h
  have h5 := congrArg List.length h4
  rw [List.length_append, List.length_cons] at h5
  omega
theorem spK_len (k : Bool) (c : UInt8) : ∀ (n : Nat) (s : List UInt8), s.length ≤ n → (spK k c s).length = s.count c + 1
  | 0, s, h => by
    obtain rfl := List.eq_nil_of_length_eq_zero (Nat.le_zero.1 h)
    rfl
  | n + 1, s, h => by
    by_cases hm : c ∈ s
    · have h1 := cut_len c hm
      rw [spK_hit k c hm, List.length_cons, spK_len k c n _ (by rw [List.length_drop]; omega), count_hit c hm]
    · rw [spK_miss k c hm, List.count_eq_zero_of_not_mem hm]; rfl
theorem set_fill {α : Type} (acc : List α) (x z : α) (m : Nat) (hm : 0 < m) : (acc ++ List.replicate m z).set acc.length x = (acc ++ [x]) ++ List.replicate (m - 1) z := by
  obtain ⟨m, rfl⟩ : ∃ k, m = k + 1 := ⟨m - 1, by omega⟩
  rw [List.set_append_right _ _ (Nat.le_refl _), Nat.sub_self, List.replicate_succ, List.set_cons_zero, Nat.add_sub_cancel, List.append_assoc]; rfl
end Go.VN


namespace Go.VL
open Go.RowKit
set_option linter.unusedVariables false
theorem flat_set1 {α : Type} {e : α → List PV} {S : Nat} (he : ∀ x, (e x).length = S) {p : PV} {j : Nat} {a b : α} (hb : e b = (e a).set j p) (hj : j < S) : ∀ {l : List α} {m : Nat}, l[m]? = some a → (l.flatMap e).set (m * S + j) p = (l.set m b).flatMap e
  | y :: l, 0, h => by
    obtain rfl : y = a := by simpa using h
    rw [List.set_cons_zero, List.flatMap_cons, List.flatMap_cons, hb, Nat.zero_mul, Nat.zero_add, List.set_append_left _ _ (by rw [he]; exact hj)]
  | y :: l, m + 1, h => by
    have ih := flat_set1 he hb hj (l := l) (m := m) (by simpa using h)
    rw [List.set_cons_succ, List.flatMap_cons, List.flatMap_cons, ← ih, List.set_append_right _ _ (by rw [he, Nat.succ_mul]; omega), he, Nat.succ_mul]
    congr 2
    omega
  | [], m, h => by simp at h
section
variable {X : Ctx} {N : Nat} {R : AS → Prop} {k : List KI} {ops : Array Oper} {D D' : Option (List Fl)} {rest : List Oper} {env : List (Nat × AV)} {h : Hp} {n : Nat} {d : Tmp} {ty tx : TypeId} {ps : String} {af : Array Edge}
theorem R_ldOF {x : Operand} {α : Type} {e : α → List PV} {l : List α} {id S m j : Nat} {te : TypeId} {zb : Bool} {a : α} {p : PV} {T : TI} [hT : TInf X tx T] (hl : l[m]? = some a) (hx : EvR env x (.one (.ptr id (m * S + j))) := by exact ⟨rfl⟩) (hlk : look h id = some (.pu te (l.flatMap e), zb) := by rfl) (hS : ∀ x, (e x).length = S := by exact fun _ => rfl) (hag : isAggU T.u = false := by rfl)
    (hp : (e a)[j]? = some p := by rfl) (hfl : FlR D env (.load tx x) (vP p) (.n [id] [] none) D' := by first | exact .seq | exact .drawn rfl)
    (hK : Rn X N R k ops D' rest ⟨(d, vP p) :: env, h, n⟩) : Rn X N R k ops D (⟨some d, .load tx x, ty, ps, af, none⟩ :: rest) ⟨env, h, n⟩ :=
  Rn.step (ef := .n [id] [] none) trivial (fun K hK => by
    have hg := flat_get hS hl hp
    have h1 := (List.getElem?_eq_some_iff.1 hg).1
    simp only [evOp, hx.h, evLoadBx, hT.h, hlk, hag, Bool.false_eq_true, if_false]
    exact ⟨h1, by rw [List.getD_eq_getElem?_getD, hg]; exact hK⟩) hfl hK
theorem R_stOF {x y : Operand} {α : Type} {e : α → List PV} {l : List α} {id S m j : Nat} {te : TypeId} {a b : α} {p : PV} {T : TI} [hT : TInf X tx T] (hl : l[m]? = some a) (hb : e b = (e a).set j p) (hx : EvR env x (.one (.ptr id (m * S + j))) := by exact ⟨rfl⟩) (hlk : look h id = some (.pu te (l.flatMap e), false) := by rfl) (hS : ∀ x, (e x).length = S := by exact fun _ => rfl) (hT1 : T.size = 1 := by rfl) (hj : Nat.blt j S = true := by rfl)
    (hy : EvR env y (vP p) := by exact ⟨rfl⟩) (hnn : p.isNil = false := by rfl) {h' : Hp} (hh : PutR h id (.pu te ((l.set m b).flatMap e), false) h' := by repeat (first | exact .hit | exact .nil | (apply PutR.miss; rfl)))
    (hfl : FlR D env (.store tx x y) .bot (.e h' none) D' := by first | exact .seq | exact .drawn rfl)
    (hK : Rn X N R k ops D' rest ⟨env, h', n⟩) : Rn X N R k ops D (⟨none, .store tx x y, ty, ps, af, none⟩ :: rest) ⟨env, h, n⟩ :=
  Rn.step (ef := .e h' none) (v := .bot) (n' := n) trivial (fun K hK => by
    have hj' : j < S := by simpa using hj
    have hm := (List.getElem?_eq_some_iff.1 hl).1
    have hv := (VA.one (h := h) (VC.pv hnn)).h
    have e1 : setM (l.flatMap e) (m * S + j) [p] = (l.set m b).flatMap e := flat_set1 hS hb hj' hl
    have hlt : m * S + j + 1 ≤ (l.flatMap e).length := by
      rw [flat_len hS]
      have := Nat.mul_le_mul_right S (Nat.succ_le_of_lt hm)
      rw [Nat.succ_mul] at this
      omega
    simp only [evOp, hx.h, evStore, hT.h, hlk, hy.h, viewX]
    refine hv _ ?_
    simp only [frzs, e1, hh.eq]
    exact ⟨hT1.symm, hlt, rfl, hK⟩) hfl hK
/-- A cell behind a pointer that was captured. -/
theorem R_ldPt {x : Operand} {cells : List PV} {off : Nat} {p : PV} {T : TI} [hT : TInf X tx T] (hx : EvR env x (vP (.pt cells off)) := by exact ⟨rfl⟩) (hag : isAggU T.u = false := by rfl) (hp : cells[off]? = some p := by rfl) (hfl : FlR D env (.load tx x) (vP p) (.n [] [] none) D' := by first | exact .seq | exact .drawn rfl)
    (hK : Rn X N R k ops D' rest ⟨(d, vP p) :: env, h, n⟩) : Rn X N R k ops D (⟨some d, .load tx x, ty, ps, af, none⟩ :: rest) ⟨env, h, n⟩ :=
  Rn.step (ef := .n [] [] none) trivial (fun K hK => by
    have h1 := (List.getElem?_eq_some_iff.1 hp).1
    simp only [evOp, hx.h, evLoadPv, hT.h, hag, Bool.false_eq_true, if_false]
    exact ⟨h1, by rw [List.getD_eq_getElem?_getD, hp]; exact hK⟩) hfl hK
end
end Go.VL


namespace Go.VN
open Go.RowKit Go.VL
set_option linter.unusedVariables false
def vis (c : UInt8) : Bool := decide (32 ≤ c.toNat) && decide (c.toNat ≤ 126)
def tvE (s : List UInt8) : Int := if 120 < s.length then 3 else if s.all vis = true then 0 else 2
def lowB (c : UInt8) : UInt8 := if upr c = true then UInt8.ofNat (c.toNat + 32) else c
def foldS (s : List UInt8) : List UInt8 := s.map lowB
abbrev Spn := Int × Int
def eSp (p : Spn) : List PV := [.int .i64 p.1, .int .i64 p.2]
def wStep (i : Nat) (c : UInt8) (out : List Spn) : List Spn :=
  if ltr c = false then out else if 0 < out.length ∧ (out.getD (out.length - 1) (0, 0)).2 = i then out.set (out.length - 1) ((out.getD (out.length - 1) (0, 0)).1, (i : Int) + 1) else out ++ [((i : Int), (i : Int) + 1)]
def wdsL : Nat → List UInt8 → List Spn → List Spn
  | _, [], out => out
  | i, c :: s, out => wdsL (i + 1) s (wStep i c out)
def wdsF (s : List UInt8) : List Spn × Int := if tvE s ≠ 0 then ([], tvE s) else (wdsL 0 s [], 0)
theorem lowB_fix (c : UInt8) : lowB c = c ↔ upr c = false := by
  unfold lowB
  cases h : upr c with
  | false => simp
  | true =>
    simp only [if_true, Bool.true_eq_false, iff_false]
    unfold upr at h
    simp only [Bool.and_eq_true, decide_eq_true_eq] at h
    intro he
    have h2 := congrArg UInt8.toNat he
    rw [UInt8.toNat_ofNat_of_lt' (by show c.toNat + 32 < 256; omega)] at h2
    omega
theorem foldS_fix : ∀ s : List UInt8, foldS s = s ↔ s.all (fun c => !upr c) = true
  | [] => by simp [foldS]
  | c :: s => by
    have ih := foldS_fix s
    unfold foldS at ih ⊢
    rw [List.map_cons, List.cons.injEq, lowB_fix, ih, List.all_cons, Bool.and_eq_true]
    simp
theorem foldS_len (s : List UInt8) : (foldS s).length = s.length := by unfold foldS; simp
theorem fold_next {s : List UInt8} {i : Nat} (h : i < s.length) : (foldS (s.take i) ++ s.drop i).set i (lowB s[i]) = foldS (s.take (i + 1)) ++ s.drop (i + 1) := by
  have hl : (foldS (s.take i)).length = i := by rw [foldS_len, List.length_take]; omega
  rw [List.set_append_right _ _ (by omega), hl, Nat.sub_self, List.drop_eq_getElem_cons h, List.set_cons_zero, List.take_succ_eq_append_getElem h]
  unfold foldS
  rw [List.map_append, List.append_assoc]; rfl
theorem fold_at {s : List UInt8} {i : Nat} (h : i < s.length) : (foldS (s.take i) ++ s.drop i)[i]? = some s[i] := by
  have hl : (foldS (s.take i)).length = i := by rw [foldS_len, List.length_take]; omega
  rw [List.getElem?_append_right (by omega), hl, Nat.sub_self, List.drop_eq_getElem_cons h]; rfl
theorem set_self? {α : Type} {l : List α} {i : Nat} {c : α} (h : l[i]? = some c) : l.set i c = l := by
  obtain ⟨h1, rfl⟩ := List.getElem?_eq_some_iff.1 h
  exact List.set_getElem_self h1
theorem lowB_up {c : UInt8} (h : 65 ≤ c.toNat ∧ c.toNat ≤ 90) : (lowB c).toNat = c.toNat + 32 := by
  unfold lowB upr
  rw [if_pos (by simp; exact h), UInt8.toNat_ofNat_of_lt' (by show c.toNat + 32 < 256; omega)]
theorem lowB_no {c : UInt8} (h : ¬ (65 ≤ c.toNat ∧ c.toNat ≤ 90)) : lowB c = c := by
  unfold lowB upr
  rw [if_neg (by simp; omega)]
theorem ltr_vis {c : UInt8} (h : ltr c = true) : vis c = true := by
  unfold ltr at h
  unfold vis
  simp only [Bool.and_eq_true] at h ⊢
  exact h.1
theorem all_vis {s : List UInt8} (h : s.all ltr = true) : s.all vis = true := List.all_eq_true.2 fun c hc => ltr_vis (List.all_eq_true.1 h c hc)
/-- The spans lie in order, each not empty, behind one another; the last ends at or ahead of i. -/
theorem wdsL_all : ∀ (s : List UInt8) (i : Nat), s.all ltr = true → ∀ (f : Int), wdsL i s [(f, (i : Int))] = [(f, (i : Int) + s.length)]
  | [], i, _, f => by simp [wdsL]
  | c :: s, i, h, f => by
    rw [List.all_cons, Bool.and_eq_true] at h
    rw [wdsL]
    have e : wStep i c [(f, (i : Int))] = [(f, ((i + 1 : Nat) : Int))] := by
      unfold wStep
      rw [if_neg (by rw [h.1]; decide)]
      rw [if_pos (by simp)]
      simp
    rw [e, wdsL_all s (i + 1) h.2 f, List.length_cons]
    congr 2
    push_cast
    omega
theorem wStep_len (i : Nat) (c : UInt8) (out : List Spn) : out.length ≤ (wStep i c out).length := by
  unfold wStep
  split
  · exact Nat.le_refl _
  · split
    · simp
    · simp
/-- A bound on the sum of the spans' lengths: at most the letters met. -/
def spl (l : List Spn) : Int := (l.map fun p => p.2 - p.1).sum
theorem spl_set : ∀ (l : List Spn) (k : Nat) (p : Spn), k < l.length → spl (l.set k p) = spl l - ((l.getD k (0, 0)).2 - (l.getD k (0, 0)).1) + (p.2 - p.1)
  | [], k, p, h => by simp at h
  | x :: l, 0, p, h => by simp [spl]; omega
  | x :: l, k + 1, p, h => by
    have ih := spl_set l k p (by simpa using h)
    unfold spl at ih ⊢
    simp only [List.set_cons_succ, List.map_cons, List.sum_cons, List.getD_cons_succ] at ih ⊢
    omega
theorem spl_step (i : Nat) (c : UInt8) (out : List Spn) : spl (wStep i c out) = spl out + if ltr c = true then 1 else 0 := by
  unfold wStep
  cases h : ltr c with
  | false => simp
  | true =>
    rw [if_neg (by simp), if_pos rfl]
    split
    · rename_i h2
      rw [spl_set _ _ _ (by omega), h2.2]
      simp only
      omega
    · simp [spl]; omega
theorem spl_wds : ∀ (s : List UInt8) (i : Nat) (out : List Spn), spl (wdsL i s out) = spl out + (s.filter ltr).length
  | [], i, out => by simp [wdsL]
  | c :: s, i, out => by
    rw [wdsL, spl_wds s (i + 1), spl_step]
    cases h : ltr c with
    | false => simp [h]
    | true => simp [h]; omega
/-- One word, as long as the line: exactly if all are letters. -/
theorem wds_one {s : List UInt8} (hs : s ≠ []) : ((wdsL 0 s []).length = 1 ∧ ((wdsL 0 s []).getD 0 (0, 0)).2 - ((wdsL 0 s []).getD 0 (0, 0)).1 = s.length) ↔ s.all ltr = true := by
  constructor
  · intro ⟨h1, h2⟩
    have h3 := spl_wds s 0 []
    obtain ⟨p, hp⟩ := List.length_eq_one_iff.1 h1
    rw [hp] at h2 h3
    simp only [List.getD_cons_zero] at h2
    simp only [spl, List.map_cons, List.map_nil, List.sum_cons, List.sum_nil] at h3
    have h4 : (s.filter ltr).length = s.length := by omega
    exact List.all_eq_true.2 (List.length_filter_eq_length_iff.1 h4)
  · intro h
    match s, hs, h with
    | c :: s, _, h =>
      rw [List.all_cons, Bool.and_eq_true] at h
      have e : wdsL 0 (c :: s) [] = [((0 : Int), ((s.length + 1 : Nat) : Int))] := by
        rw [wdsL]
        have e1 : wStep 0 c [] = [((0 : Int), ((1 : Nat) : Int))] := by
          unfold wStep
          rw [if_neg (by rw [h.1]; decide)]
          simp
        rw [e1, wdsL_all s 1 h.2]
        congr 2
        push_cast
        omega
      rw [e]
      simp
theorem tx_spec (s : List UInt8) : txE s = if s = [] then 7 else if 4 < s.length then 3 else if foldS s ≠ s then 2 else if (wdsF s).2 ≠ 0 ∨ (wdsF s).1.length ≠ 1 ∨ ((wdsF s).1.getD 0 (0, 0)).2 - ((wdsF s).1.getD 0 (0, 0)).1 ≠ s.length then 2 else 0 := by
  unfold txE
  by_cases h1 : s = []
  · rw [if_pos h1, if_pos h1]
  rw [if_neg h1, if_neg h1]
  by_cases h2 : 4 < s.length
  · rw [if_pos h2, if_pos h2]
  rw [if_neg h2, if_neg h2]
  have ha : (s.all fun c => ltr c && !upr c) = (s.all ltr && s.all fun c => !upr c) := by
    clear h1 h2
    induction s with
    | nil => rfl
    | cons c s ih =>
      simp only [List.all_cons, ih]
      cases ltr c <;> cases upr c <;> cases s.all ltr <;> simp
  rw [ha]
  by_cases h3 : foldS s = s
  · rw [(foldS_fix s).1 h3, Bool.and_true, if_neg (show ¬ (foldS s ≠ s) from fun h => h h3)]
    by_cases h4 : s.all ltr = true
    · have hv : tvE s = 0 := by unfold tvE; rw [if_neg (by omega), if_pos (all_vis h4)]
      have hw : wdsF s = (wdsL 0 s [], 0) := by unfold wdsF; rw [if_neg (by rw [hv]; simp)]
      have := (wds_one h1).2 h4
      rw [if_pos h4, hw, if_neg (by simp only; omega)]
    · rw [if_neg h4]
      by_cases hv : tvE s = 0
      · have hw : wdsF s = (wdsL 0 s [], 0) := by unfold wdsF; rw [if_neg (by rw [hv]; simp)]
        have hn := fun h => h4 ((wds_one h1).1 h)
        rw [hw, if_pos]
        simp only
        by_cases h5 : (wdsL 0 s []).length = 1
        · exact .inr (.inr fun h => hn ⟨h5, h⟩)
        · exact .inr (.inl h5)
      · rw [if_pos (.inl (by unfold wdsF; rw [if_pos hv]; exact hv))]
  · rw [if_pos h3]
    have : (s.all fun c => !upr c) ≠ true := fun h => h3 ((foldS_fix s).2 h)
    rw [if_neg (by rw [Bool.and_eq_true]; exact fun h => this h.2)]
end Go.VN
namespace Go.VL
open Go.RowKit
variable {X : Ctx} {f : FuncId}
/-- Of a string and a byte. -/
theorem spc_strU8 {s : List UInt8} {c : UInt8} {res : PA} (ent : Ent X.P f) (h : ∀ w, X.G w → s.length ≤ 9223372036854775807 → Calls X.P f #[.string ⟨s.toArray⟩, .int .u8 (c.toNat : Int)] w fun e w' => ∃ u, e = .returned u ∧ RepV w' (fun _ => False) β0 res.av u ∧ Below w.heap.size w w') : Spc X f [.one (.str s), .one (.int .u8 (c.toNat : Int))] res :=
  spc_calls ent fun ok w vals hG hlt hs hv => by
    obtain ⟨u, hu, hr⟩ := hv 0 _ rfl
    obtain ⟨v, hv, hq⟩ := hv 1 _ rfl
    obtain ⟨rfl, hz⟩ := one_str hr
    obtain ⟨rfl, hy⟩ := one_int hq
    rw [vals2 hs hu hv]
    exact h w hG hz
end Go.VL


namespace Go.VN
open Go.RowKit Go.VL
set_option linter.unusedVariables false
def wrR (r : Nat) : Bool := (decide (97 ≤ r) && decide (r ≤ 122)) || (decide (48 ≤ r) && decide (r ≤ 57)) || decide (r = 95) || decide (r = 94) || decide (r = 39)
theorem wrR_high {r : Nat} (h : 128 ≤ r) : wrR r = false := by
  unfold wrR
  simp only [Bool.or_eq_false_iff, Bool.and_eq_false_iff, decide_eq_false_iff_not]
  omega
theorem wrR_wrt (c : UInt8) : wrR c.toNat = wrt c := by
  have e : ∀ d : UInt8, (c = d) = (c.toNat = d.toNat) := fun d => propext ⟨fun h => by rw [h], fun h => UInt8.toNat_inj.1 h⟩
  unfold wrR wrt sml dgt
  simp only [e]
  rfl
theorem idx_wrt (s : List UInt8) : ∀ (f pos : Nat), s.length ≤ f + pos → decide (0 ≤ Lib.idxFuncFrom (fun r => !wrR r) true ⟨s.toArray⟩ f pos) = !((s.drop pos).all wrt)
  | 0, pos, h => by
    rw [List.drop_eq_nil_of_le (by omega)]
    rfl
  | f + 1, pos, h => by
    have hsz : (⟨s.toArray⟩ : ByteArray).size = s.length := by simp [ByteArray.size]
    unfold Lib.idxFuncFrom
    by_cases hp : pos < s.length
    · rw [if_pos (by rw [hsz]; exact hp)]
      have hget : ((⟨s.toArray⟩ : ByteArray)[pos]'(by rw [hsz]; exact hp)) = s[pos] := rfl
      rw [List.drop_eq_getElem_cons hp, List.all_cons]
      by_cases hc : s[pos].toNat < 128
      · rw [decode_ascii ⟨s.toArray⟩ pos (by rw [hsz]; exact hp) (by rw [hget]; exact hc), hget]
        simp only [wrR_wrt]
        cases hw : wrt s[pos] with
        | true =>
          rw [if_neg (by simp), idx_wrt s f (pos + 1) (by omega)]
          rfl
        | false =>
          rw [if_pos (by simp), decide_eq_true (by omega)]
          rfl
      · have hh := decode_high ⟨s.toArray⟩ pos (by rw [hsz]; exact hp) (by rw [hget]; omega)
        rw [if_pos (by rw [wrR_high hh.1]; rfl), decide_eq_true (by omega)]
        have : wrt s[pos] = false := by rw [← wrR_wrt]; exact wrR_high (by omega)
        rw [this]; rfl
    · rw [if_neg (by rw [hsz]; exact hp), List.drop_eq_nil_of_le (by omega)]
      rfl
theorem idx_wrt0 (s : List UInt8) : decide (0 ≤ Lib.idxFunc (fun r => !wrR r) true ⟨s.toArray⟩) = !(s.all wrt) := by
  have hsz : (⟨s.toArray⟩ : ByteArray).size = s.length := by simp [ByteArray.size]
  unfold Lib.idxFunc
  rw [hsz, idx_wrt s s.length 0 (by omega), List.drop_zero]
theorem lexLt_irr : ∀ a : List UInt8, lexLt a a = false
  | [] => rfl
  | a :: x => by
    rw [lexLt, lexLt_irr x]
    have : decide (a < a) = false := decide_eq_false (fun h => absurd (UInt8.lt_iff_toNat_lt.1 h) (Nat.lt_irrefl _))
    rw [this]; simp
def cmpSd (a b : Snd) : Int :=
  if sgn a.1 b.1 ≠ 0 then sgn a.1 b.1 else if sgn a.2.1 b.2.1 ≠ 0 then sgn a.2.1 b.2.1
  else if lexLt a.2.2 b.2.2 = true then -1 else if (!(lexLt a.2.2 b.2.2 || decide (a.2.2 = b.2.2))) = true then 1 else 0
theorem sgn_zero {x y : Int} : sgn x y = 0 ↔ x = y := by
  unfold sgn
  constructor
  · intro h
    split at h
    · cases h
    · split at h
      · cases h
      · omega
  · intro h; subst h; simp
theorem cmpSd_zero (a b : Snd) : cmpSd a b = 0 ↔ a = b := by
  unfold cmpSd
  constructor
  · intro h
    split at h
    · rename_i h1; exact absurd h h1
    rename_i h1
    split at h
    · rename_i h2; exact absurd h h2
    rename_i h2
    split at h
    · cases h
    rename_i h3
    split at h
    · cases h
    rename_i h4
    have e1 := sgn_zero.1 (Decidable.not_not.1 h1)
    have e2 := sgn_zero.1 (Decidable.not_not.1 h2)
    have e3 : a.2.2 = b.2.2 := by
      have h3' : lexLt a.2.2 b.2.2 = false := by simpa using h3
      rw [h3'] at h4
      simpa using h4
    exact Prod.ext e1 (Prod.ext e2 e3)
  · intro h
    subst h
    rw [sgn_zero.2 rfl, sgn_zero.2 rfl, lexLt_irr]
    simp
theorem eq_take {α : Type} {a b : List α} {i : Nat} (h1 : i < a.length) (h2 : i < b.length) (h : a.take i = b.take i) (hi : a[i] = b[i]) : a.take (i + 1) = b.take (i + 1) := by
  rw [List.take_succ_eq_append_getElem h1, List.take_succ_eq_append_getElem h2, h, hi]
end Go.VN


namespace Go.VN
open Go.RowKit Go.VL
set_option linter.unusedVariables false
theorem firstE_bad : ∀ {l : List Snd} {i : Nat} {x : Snd}, l[i]? = some x → (∀ y ∈ l.take i, sdE y = 0) → sdE x ≠ 0 → firstE l = sdE x
  | y :: l, 0, x, h, _, hx => by
    obtain rfl : y = x := by simpa using h
    rw [firstE, if_pos hx]
  | y :: l, i + 1, x, h, ho, hx => by
    rw [firstE, if_neg (by simpa using ho y (by simp))]
    exact firstE_bad (by simpa using h) (fun z hz => ho z (by simp [hz])) hx
  | [], i, x, h, _, _ => by simp at h
theorem firstE_ok : ∀ {l : List Snd}, (∀ y ∈ l, sdE y = 0) → firstE l = 0
  | [], _ => rfl
  | y :: l, h => by
    rw [firstE, if_neg (by simpa using h y (by simp))]
    exact firstE_ok fun z hz => h z (by simp [hz])
theorem take_succ_all {α : Type} {l : List α} {i : Nat} {x : α} {P : α → Prop} (hx : l[i]? = some x) (ho : ∀ y ∈ l.take i, P y) (h : P x) : ∀ y ∈ l.take (i + 1), P y := by
  obtain ⟨hi, rfl⟩ := List.getElem?_eq_some_iff.1 hx
  intro y hy
  rw [List.take_succ_eq_append_getElem hi] at hy
  rcases List.mem_append.1 hy with hy | hy
  · exact ho y hy
  · rw [List.mem_singleton.1 hy]; exact h
theorem getD_some {α : Type} [Inhabited α] {l : List α} {i : Nat} (h : i < l.length) : l[i]? = some (l.getD i default) := by
  rw [List.getD_eq_getElem?_getD, List.getElem?_eq_getElem h]; rfl
theorem wdsL_bd : ∀ (s : List UInt8) (i : Nat) (out : List Spn), (∀ p ∈ out, 0 ≤ p.1 ∧ p.1 ≤ i ∧ 0 ≤ p.2 ∧ p.2 ≤ i) → ∀ p ∈ wdsL i s out, 0 ≤ p.1 ∧ p.1 ≤ i + s.length ∧ 0 ≤ p.2 ∧ p.2 ≤ i + s.length
  | [], i, out, h => by simpa [wdsL] using h
  | c :: s, i, out, h => by
    have ih := wdsL_bd s (i + 1) (wStep i c out) (fun p hp => by
      unfold wStep at hp
      split at hp
      · have := h p hp; omega
      · split at hp
        · rename_i h2
          rcases List.mem_or_eq_of_mem_set hp with hp | hp
          · have := h p hp; omega
          · have hm : out.getD (out.length - 1) (0, 0) ∈ out := by
              rw [List.getD_eq_getElem?_getD, List.getElem?_eq_getElem (by omega)]
              exact List.getElem_mem _
            have := h _ hm
            rw [hp]; simp only; omega
        · rcases List.mem_append.1 hp with hp | hp
          · have := h p hp; omega
          · rw [List.mem_singleton.1 hp]; simp only; omega)
    intro p hp
    rw [wdsL] at hp
    have := ih p hp
    rw [List.length_cons]
    omega
theorem wdsF_bd (s : List UInt8) : ∀ p ∈ (wdsF s).1, 0 ≤ p.1 ∧ p.1 ≤ 120 ∧ 0 ≤ p.2 ∧ p.2 ≤ 120 := by
  intro p hp
  unfold wdsF at hp
  by_cases h : tvE s ≠ 0
  · rw [if_pos h] at hp; simp at hp
  · rw [if_neg h] at hp
    have hl : s.length ≤ 120 := by
      unfold tvE at h
      by_cases h1 : 120 < s.length
      · rw [if_pos h1] at h; simp at h
      · omega
    have := wdsL_bd s 0 [] (by simp) p hp
    omega
def eqA (c : UInt8) (l : List UInt8) : Bool := l.contains c
end Go.VN
namespace Go.VN
open Go.RowKit Go.VL
theorem eqPs_sd (a b : Snd) : eqPs (eSd a) (eSd b) = decide (a = b) := by
  obtain ⟨a1, a2, a3⟩ := a
  obtain ⟨b1, b2, b3⟩ := b
  simp only [eSd, eqPs, eqP, Bool.and_true]
  rw [Bool.eq_iff_iff]
  simp
theorem ixP_no {α : Type} {p : α → Bool} : ∀ {l : List α}, (∀ y ∈ l, p y = false) → ixP p l = -1
  | [], _ => rfl
  | x :: l, h => by
    have ih := ixP_no (p := p) (l := l) fun y hy => h y (by simp [hy])
    rw [ixP, if_neg (by rw [h x (by simp)]; decide), ih]; rfl
theorem ixP_at {α : Type} {p : α → Bool} : ∀ {l : List α} {i : Nat} {x : α}, l[i]? = some x → (∀ y ∈ l.take i, p y = false) → p x = true → ixP p l = i
  | y :: l, 0, x, h, _, hx => by
    obtain rfl : y = x := by simpa using h
    rw [ixP, if_pos hx]; rfl
  | y :: l, i + 1, x, h, ho, hx => by
    have ih := ixP_at (p := p) (l := l) (i := i) (by simpa using h) (fun z hz => ho z (by simp [hz])) hx
    rw [ixP, if_neg (by rw [ho y (by simp)]; decide), ih, if_neg (by omega)]; push_cast; rfl
  | [], i, x, h, _, _ => by simp at h
theorem ixP_any {α : Type} (p : α → Bool) : ∀ l : List α, decide (0 ≤ ixP p l) = l.any p
  | [] => rfl
  | x :: l => by
    have ih := ixP_any p l
    rw [ixP, List.any_cons]
    cases h : p x with
    | true => simp
    | false =>
      rw [if_neg (by decide), Bool.false_or, ← ih]
      by_cases h1 : ixP p l < 0
      · rw [if_pos h1, decide_eq_false (by omega), decide_eq_false (by omega)]
      · rw [if_neg h1, decide_eq_true (by omega), decide_eq_true (by omega)]
theorem sameSg_comm (a b : Sgn) : sameSg a b = sameSg b a := by
  unfold sameSg
  rw [Bool.eq_iff_iff]
  simp only [Bool.and_eq_true, decide_eq_true_eq]
  constructor <;> (rintro ⟨⟨h1, h2⟩, h3⟩; exact ⟨⟨h1.symm, h2.symm⟩, h3.symm⟩)
theorem chkL_step {l : List Sgn} {i : Nat} {x : Sgn} (h : l[i]? = some x) : chkL (l.take i) (l.drop i) = if sgE x ≠ 0 then ((i : Int), sgE x) else if ((l.take i).any fun t => sameSg t x) = true then ((i : Int), 5) else chkL (l.take (i + 1)) (l.drop (i + 1)) := by
  obtain ⟨hi, rfl⟩ := List.getElem?_eq_some_iff.1 h
  rw [List.drop_eq_getElem_cons hi, chkL, List.take_succ_eq_append_getElem hi, List.length_take, Nat.min_eq_left (by omega)]
end Go.VN
namespace Go.VL
open Go.RowKit
theorem VA.clo1 {h : Hp} {id off : Nat} {f : FuncId} {cs : List AC} {ps : List PV} {ids : List Nat} {z : Bool} (hl : look h id = some (.mx cs, z)) (hc : VL h cs ps ids) : VA h (.one (.clo f [.ptr id off])) (.one (.clo f [.pt ps off])) (id :: ids ++ []) := ⟨fun K hK => by
  simp only [viewA, viewCaps, viewCap, viewC, hl]
  exact hc.h _ hK⟩
end Go.VL


namespace Go.VS.YtekfjbjdlenhoaaGreatDoor
open Go Go.VL Go.VN Go.RowKit Go.Proofs
set_option maxRecDepth 100000
set_option linter.unusedVariables false
set_option linter.unusedSimpArgs false

theorem s_IndexS1 (s : List UInt8) (c : UInt8) (hl : s.length ≤ 140737488355328) : Spc X 79 [.one (.str s), .one (.str [c])] (.one (.int .i64 (Lib.indexByte s c))) :=
  spc_str2 (ent_of2 (P := X.P) Tryz.func79 (by kernel_rfl) (by kernel_rfl)) fun w hG h0 _ => (Tryz.strings_Index_one ⟨s.toArray⟩ c w).mono fun e w' ⟨he, hw⟩ => ⟨_, he, .int _ _ ((Go.VL.range_i64 _).2 (by
    have h1 := Lib.indexByte_ge s c
    have h2 : Lib.indexByte s c ≤ 140737488355328 := by
      by_cases hm : c ∈ s
      · rw [((indexByte_cut c s).1 hm).1]
        have := cut_len c hm
        omega
      · rw [((indexByte_cut c s).2 hm).1]; omega
    constructor <;> omega)), by rw [hw]; exact Below.refl _ _⟩
theorem s_Count1 (s : List UInt8) (c : UInt8) (hl : s.length ≤ 140737488355328) : Spc X 113 [.one (.str s), .one (.str [c])] (.one (.int .i64 (s.count c : Nat))) :=
  spc_str2 (ent_of2 (P := X.P) Tryz.func113 (by kernel_rfl) (by kernel_rfl)) fun w hG h0 _ => (Tryz.strings_Count_one ⟨s.toArray⟩ c w).mono fun e w' ⟨he, hw⟩ => ⟨_, he, .int _ _ ((Go.VL.range_i64 _).2 (by
    have h2 := List.count_le_length (a := c) (l := s)
    constructor <;> omega)), by rw [hw]; exact Below.refl _ _⟩
theorem s_Contains1 (s : List UInt8) (c : UInt8) : Spc X 54 [.one (.str s), .one (.str [c])] (.one (.bool (s.contains c))) :=
  spc_str2 (ent_of2 (P := X.P) Tryz.func54 (by kernel_rfl) (by kernel_rfl)) fun w hG h0 _ => (Tryz.strings_Contains_one ⟨s.toArray⟩ c w).mono fun e w' ⟨he, hw⟩ => ⟨_, by
    rw [he]
    have : decide (0 ≤ Lib.indexByte s c) = s.contains c := by
      by_cases hm : c ∈ s
      · rw [((indexByte_cut c s).1 hm).1, List.contains_iff_mem.2 hm]; simp
      · rw [((indexByte_cut c s).2 hm).1, Bool.eq_false_iff.2 (fun h => hm (List.contains_iff_mem.1 h))]; rfl
    rw [show Lib.indexByte (ByteArray.mk s.toArray).data.toList c = Lib.indexByte s c from rfl, this], .bool _, by rw [hw]; exact Below.refl _ _⟩
theorem s_genSplit (k : Bool) (c : UInt8) (s : List UInt8) (hl : s.length ≤ 1000000) : Spc X 76 [.one (.str s), .one (.str [c]), .one (.int .i64 (k.toNat : Int)), .one (.int .i64 (-1))] (.one (slc eS (spK k c s))) := by
  refine Spc.start Tryz.func76 rfl (h := fun hs R hR => ?_)
  unfold Tryz.f76
  simp only [entryE, PA.av]
  have k1 := s_Count1 s c (by omega)
  have hc := List.count_le_length (a := c) (l := s)
  have hk : (k.toNat : Int) ≤ 1 := by cases k <;> simp
  refine walk (hQ := ?_)
  refine R_call k1 (hK := ?_)
  refine walk (hQ := ?_)
  have hspl : ∀ m, m = s.count c → (spK k c s).length = m + 1 := fun m hm => by rw [spK_len k c s.length s (Nat.le_refl _), hm]
  generalize hn : s.count c = n at *
  have e1 : min ((n : Int) + 1) ((s.length : Int) + 1) = ((n + 1 : Nat) : Int) := by omega
  rw [e1]
  simp only [Int.toNat_natCast]
  refine Lp.intro2 (fun (acc : List (List UInt8)) (cur : List UInt8) => ⟨[(0, vS cur), (1, vS [c]), (2, vI (k.toNat : Int)), (3, vI n), (9, .one (.own 0 1 (n + 1))), (10, vI acc.length)], [(0, (.pu 9 ((acc ++ List.replicate (n + 1 - acc.length) []).flatMap eS), false))], 1⟩) (fun acc cur => acc ++ spK k c cur = spK k c s ∧ acc.length + cur.count c = n ∧ cur.length ≤ s.length) (fun acc cur => cur.length) [] s ⟨by simp, by simp [hn], Nat.le_refl _⟩ (h0 := le_auto) (hr := fun acc cur K ⟨hi, ho, hcl⟩ hK => ?_)
  have hal : (acc ++ List.replicate (n + 1 - acc.length) ([] : List UInt8)).length = n + 1 := by rw [List.length_append, List.length_replicate]; omega
  have hsf := fun x => set_fill acc x ([] : List UInt8) (n + 1 - acc.length) (by omega)
  refine walk (hQ := ?_)
  refine W_if (ht := fun h1 => ?_) (hf := fun h1 => ?_)
  · have hm : c ∈ cur := List.count_pos_iff.1 (by omega)
    have h2 := spK_hit k c hm
    have h3 := count_hit c hm
    have h4 := cut_len c hm
    have k2 := s_IndexS1 cur c (by omega)
    rw [((indexByte_cut c cur).1 hm).1] at k2
    have hkk : k.toNat ≤ 1 := by cases k <;> simp
    generalize (cutL c cur).length = q at *
    refine walk (hQ := ?_)
    refine R_call k2 (hK := ?_)
    refine walk (hQ := ?_)
    rw [hsf, show n + 1 - acc.length - 1 = n + 1 - (acc.length + 1) by omega]
    rw [h2, show acc ++ cur.take (q + k.toNat) :: spK k c (cur.drop (q + 1)) = (acc ++ [cur.take (q + k.toNat)]) ++ spK k c (cur.drop (q + 1)) by rw [List.append_assoc]; rfl] at hi
    refine hK _ (acc ++ [cur.take (q + k.toNat)]) (cur.drop (q + 1)) ⟨hi, by rw [List.length_append, List.length_singleton]; omega, by rw [List.length_drop]; omega⟩ (by rw [List.length_drop]; omega) ?_
    rw [List.length_append, List.length_singleton]
    exact le_auto
  · have hno : cur.count c = 0 := by omega
    have hm : c ∉ cur := List.count_eq_zero.1 hno
    rw [spK_miss k c hm] at hi
    obtain rfl : acc.length = n := by omega
    have hl2 := hspl _ rfl
    refine walk (hQ := ?_)
    rw [hsf, show acc.length + 1 - acc.length - 1 = 0 by omega, List.replicate_zero, List.append_nil, hi]
    exact hR _ (ret1 (hp := rfl))
theorem s_Split (c : UInt8) (s : List UInt8) (hl : s.length ≤ 1000000) : Spc X 80 [.one (.str s), .one (.str [c])] (.one (slc eS (splitL c s))) := by
  refine Spc.start Tryz.func80 rfl (h := fun hs R hR => ?_)
  unfold Tryz.f80
  simp only [entryE, PA.av]
  have k1 := s_genSplit false c s hl
  refine walk (hQ := ?_)
  refine R_call k1 (hK := ?_)
  refine walk (hQ := ?_)
  exact hR _ (ret1 (hp := rfl))
theorem s_SplitAfter (c : UInt8) (s : List UInt8) (hl : s.length ≤ 1000000) : Spc X 51 [.one (.str s), .one (.str [c])] (.one (slc eS (spK true c s))) := by
  refine Spc.start Tryz.func51 rfl (h := fun hs R hR => ?_)
  unfold Tryz.f51
  simp only [entryE, PA.av]
  have k1 := s_genSplit true c s hl
  refine walk (hQ := ?_)
  refine R_call k1 (hK := ?_)
  refine walk (hQ := ?_)
  exact hR _ (ret1 (hp := rfl))
theorem s_CutSuffix (s t : List UInt8) : Spc X 52 [.one (.str s), .one (.str t)] (.tup [(false, [.str (Lib.trimSuffix s t)]), (false, [.bool (Lib.hasSuffix s t)])]) :=
  spc_str2 (ent_of2 (P := X.P) Tryz.func52 (by kernel_rfl) (by kernel_rfl)) fun w hG h0 _ => (Tryz.strings_CutSuffix ⟨s.toArray⟩ ⟨t.toArray⟩ w (by simpa [ByteArray.size] using h0)).mono fun e w' ⟨he, hw⟩ => ⟨_, he, ⟨#[.string ⟨(Lib.trimSuffix s t).toArray⟩, .bool (Lib.hasSuffix s t)], rfl, rfl, fun j x hj => by
    match j, hj with
    | 0, hj => cases hj; exact ⟨_, rfl, _, rfl, .str _ (Nat.le_trans (by unfold Lib.trimSuffix; split <;> simp) h0)⟩
    | 1, hj => cases hj; exact ⟨_, rfl, _, rfl, .bool _⟩⟩, by rw [hw]; exact Below.refl _ _⟩
theorem s_CutPrefix (s t : List UInt8) : Spc X 53 [.one (.str s), .one (.str t)] (.tup [(false, [.str (Lib.trimPrefix s t)]), (false, [.bool (Lib.hasPrefix s t)])]) :=
  spc_str2 (ent_of2 (P := X.P) Tryz.func53 (by kernel_rfl) (by kernel_rfl)) fun w hG h0 _ => (Tryz.strings_CutPrefix ⟨s.toArray⟩ ⟨t.toArray⟩ w).mono fun e w' ⟨he, hw⟩ => ⟨_, he, ⟨#[.string ⟨(Lib.trimPrefix s t).toArray⟩, .bool (Lib.hasPrefix s t)], rfl, rfl, fun j x hj => by
    match j, hj with
    | 0, hj => cases hj; exact ⟨_, rfl, _, rfl, .str _ (Nat.le_trans (by unfold Lib.trimPrefix; split <;> simp) h0)⟩
    | 1, hj => cases hj; exact ⟨_, rfl, _, rfl, .bool _⟩⟩, by rw [hw]; exact Below.refl _ _⟩
theorem s_IndexStr (l : List (List UInt8)) (w : List UInt8) : Spc X 83 [.one (slc eS l), .one (.str w)] (.one (.int .i64 (ixP (fun y => decide (w = y)) l))) := by
  refine Spc.start Tryz.func83 rfl (h := fun hs R hR => ?_)
  unfold Tryz.f83
  simp only [entryE, PA.av]
  have la := (sane_slc hs.1).1
  refine walk (hQ := ?_)
  refine Lp.intro (fun (i : Nat) => ⟨[(0, vP (slc eS l)), (1, vS w), (7, vI l.length), (8, vI i)], [], 0⟩) (fun i => i ≤ l.length ∧ ∀ y ∈ l.take i, decide (w = y) = false) (fun i => l.length - i) 0 ⟨Nat.zero_le _, by simp⟩ (h0 := le_auto) (hr := fun i K ⟨hi, ho⟩ hK => ?_)
  refine walk (hQ := ?_)
  refine W_if (ht := fun h1 => ?_) (hf := fun h1 => ?_)
  · have hil : i < l.length := by omega
    have e0 := getD_some hil
    have hst := take_succ_all (P := fun y => decide (w = y) = false) e0 ho
    have hbd := ixP_at (p := fun y => decide (w = y)) e0 ho
    refine walk (hQ := ?_)
    generalize l.getD i default = x at *
    refine W_if (ht := fun h2 => ?_) (hf := fun h2 => ?_)
    · rw [hbd (decide_eq_true h2)] at hR
      refine walk (hQ := ?_)
      exact hR _ (ret1 (hp := rfl))
    · refine walk (hQ := ?_)
      exact hK _ (i + 1) ⟨by omega, hst (decide_eq_false h2)⟩ (by omega) le_auto
  · obtain rfl : i = l.length := by omega
    rw [List.take_length] at ho
    rw [ixP_no ho] at hR
    refine walk (hQ := ?_)
    exact hR _ (ret1 (hp := rfl))
end Go.VS.YtekfjbjdlenhoaaGreatDoor

