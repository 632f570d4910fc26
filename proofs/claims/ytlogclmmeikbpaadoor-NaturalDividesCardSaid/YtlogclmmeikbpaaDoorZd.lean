/- A part of the proof of CNaturalDivides: contracts over whole values, and what they lean on. Each holds under the conditions that it states. -/
import Derived.Test.YtlogclmmeikbpaaDoorZc
import Derived.Laws.Small
import Derived.Lib.AtoiAll
import Derived.Lib.ItoaNum
import Derived.Shelf.Strconv.AtoiAll
import Derived.Shelf.Strconv.Itoa3
import Derived.Shelf.Strings.Trim
import Derived.Test.YtlogclmmeikbpaaDoorProg
import Derived.Shelf.Lays
import Derived.Shelf.LaysM
import Derived.Shelf.LaysC
import Derived.Shelf.Strings.SlTrimAscii
import Derived.Lib.SlTrimSet

namespace Go.VN
open Go.RowKit
set_option linter.unusedVariables false
def rd (xs : List Int) (i : Int) : Int := xs.getD i.toNat 0
def pad4 (d : Int) : List UInt8 := ([48, 48, 48, 48] : List UInt8).drop (Lib.itoa d).length ++ Lib.itoa d
def fmtL (l : List Int) : List UInt8 := match l.reverse with
  | [] => [48]
  | d :: r => Lib.itoa d ++ r.flatMap pad4
def validB (l : List Int) : Bool := decide (l.length ≤ 200) && !(l.getLast? == some 0) && l.all fun d => decide (0 ≤ d) && decide (d < 10000)
/-! ### Kit -/

theorem rd_at (l : List Int) (i : Nat) (h : i < l.length) : rd l (i : Int) = l[i] := by
  unfold rd
  simp [List.getD_eq_getElem?_getD, h]
theorem rd_last (l : List Int) (x : Int) : rd (l ++ [x]) (l.length : Int) = x := by
  unfold rd
  simp [List.getD_eq_getElem?_getD]

/-- The number of a row of digits, the least one first. -/
def val : List Int → Int
  | [] => 0
  | d :: l => d + 10000 * val l
def Dig (l : List Int) : Prop := ∀ d ∈ l, 0 ≤ d ∧ d < 10000
/-- A row without its zeros at the top. -/
def tr : List Int → List Int
  | [] => []
  | d :: l => if tr l = [] then (if d = 0 then [] else [d]) else d :: tr l
/-- A number's digits. -/
def digs (n : Nat) : List Int := if h : n = 0 then [] else ((n % 10000 : Nat) : Int) :: digs (n / 10000)
termination_by n
decreasing_by omega
theorem digs_zero : digs 0 = [] := by unfold digs; simp
theorem digs_pos (n : Nat) (h : n ≠ 0) : digs n = ((n % 10000 : Nat) : Int) :: digs (n / 10000) := by rw [digs]; simp [h]
theorem digs_nil (n : Nat) : digs n = [] ↔ n = 0 := by
  by_cases h : n = 0
  · subst h; simp [digs_zero]
  · rw [digs_pos n h]; simp [h]
theorem val_digs (n : Nat) : val (digs n) = n := by
  induction n using Nat.strongRecOn with
  | ind n ih =>
    by_cases h : n = 0
    · subst h; rw [digs_zero]; rfl
    · rw [digs_pos n h, val, ih (n / 10000) (by omega)]
      omega
theorem dig_digs (n : Nat) : Dig (digs n) := by
  induction n using Nat.strongRecOn with
  | ind n ih =>
    by_cases h : n = 0
    · subst h; rw [digs_zero]; intro d hd; cases hd
    · rw [digs_pos n h]
      intro d hd
      rcases List.mem_cons.1 hd with rfl | hd
      · omega
      · exact ih (n / 10000) (by omega) d hd
theorem Dig.tail {d : Int} {l : List Int} (h : Dig (d :: l)) : Dig l := fun x hx => h x (List.mem_cons_of_mem _ hx)
theorem Dig.head {d : Int} {l : List Int} (h : Dig (d :: l)) : 0 ≤ d ∧ d < 10000 := h d (by simp)
theorem Dig.append {a b : List Int} (h : Dig (a ++ b)) : Dig a ∧ Dig b := ⟨fun x hx => h x (by simp [hx]), fun x hx => h x (by simp [hx])⟩
theorem Dig.join {a b : List Int} (ha : Dig a) (hb : Dig b) : Dig (a ++ b) := fun x hx => by
  rcases List.mem_append.1 hx with h | h
  · exact ha x h
  · exact hb x h
theorem Dig.one {d : Int} (h0 : 0 ≤ d) (h1 : d < 10000) : Dig [d] := fun x hx => by
  rw [List.mem_singleton.1 hx]
  exact ⟨h0, h1⟩
theorem Dig.nil : Dig [] := fun x hx => by cases hx
theorem Dig.take {l : List Int} (h : Dig l) (n : Nat) : Dig (l.take n) := fun x hx => h x (List.mem_of_mem_take hx)
theorem val_nonneg {l : List Int} (h : Dig l) : 0 ≤ val l := by
  induction l with
  | nil => exact Int.le_refl _
  | cons d l ih => have := ih h.tail; have := h.head; rw [val]; omega
theorem tr_digs {l : List Int} (h : Dig l) : tr l = digs (val l).toNat := by
  induction l with
  | nil => rw [tr, val]; exact digs_zero.symm
  | cons d l ih =>
    have h0 := val_nonneg h.tail
    have hd := h.head
    rw [tr, val, ih h.tail]
    by_cases hz : val l = 0
    · rw [hz]
      by_cases hd0 : d = 0
      · subst hd0; simp [digs_zero]
      · have e : (d + 10000 * 0).toNat = d.toNat := by omega
        have e2 : (0 : Int).toNat = 0 := rfl
        rw [if_pos (by rw [e2]; exact digs_zero), if_neg hd0, e, digs_pos _ (by omega), show d.toNat / 10000 = 0 by omega, digs_zero]
        congr 1
        omega
    · rw [if_neg (by rw [digs_nil]; omega), digs_pos (d + 10000 * val l).toNat (by omega)]
      congr 1
      · omega
      · congr 1
        omega
theorem tr_digs_id (n : Nat) : tr (digs n) = digs n := by
  rw [tr_digs (dig_digs n), val_digs]
  rfl
theorem tr_zero (l : List Int) : tr (l ++ [0]) = tr l := by
  induction l with
  | nil => simp [tr]
  | cons d l ih => rw [List.cons_append, tr, ih, tr]
theorem tr_last (l : List Int) (x : Int) (h : x ≠ 0) : tr (l ++ [x]) = l ++ [x] := by
  induction l with
  | nil => simp [tr, h]
  | cons d l ih => rw [List.cons_append, tr, ih, if_neg (by simp)]
theorem norm_digs {l : List Int} (h : Dig l) (hl : l.getLast? ≠ some 0) : l = digs (val l).toNat := by
  rw [← tr_digs h]
  rcases List.eq_nil_or_concat l with rfl | ⟨l', x, rfl⟩
  · rfl
  · rw [List.concat_eq_append] at hl ⊢
    rw [tr_last l' x (by simpa using hl)]
theorem val_append (a b : List Int) : val (a ++ b) = val a + 10000 ^ a.length * val b := by
  induction a with
  | nil => simp [val]
  | cons d a ih =>
    rw [List.cons_append, val, ih, val, List.length_cons]
    have e : (10000 : Int) ^ (a.length + 1) = 10000 * 10000 ^ a.length := by rw [Int.pow_succ, Int.mul_comm]
    rw [e, Int.mul_add, Int.mul_assoc]
    omega
theorem val_lt {l : List Int} (h : Dig l) : val l < 10000 ^ l.length := by
  induction l with
  | nil => decide
  | cons d l ih =>
    have := ih h.tail
    have := h.head
    have e : (10000 : Int) ^ (l.length + 1) = 10000 * 10000 ^ l.length := by rw [Int.pow_succ, Int.mul_comm]
    rw [val, List.length_cons, e]
    omega
theorem len_tr (l : List Int) : (tr l).length ≤ l.length := by
  induction l with
  | nil => exact Nat.le_refl _
  | cons d l ih =>
    rw [tr]
    split
    · split <;> simp
    · simpa using ih
/-- The comparison of the first n digits, from the top. -/
def cmpFrom (a b : List Int) : Nat → Int
  | 0 => 0
  | n + 1 => if rd a n < rd b n then -1 else if rd a n > rd b n then 1 else cmpFrom a b n
def cmpL (a b : List Int) : Int := if a.length < b.length then -1 else if b.length < a.length then 1 else cmpFrom a b a.length
theorem cmpFrom_self (a : List Int) (n : Nat) : cmpFrom a a n = 0 := by
  induction n with
  | zero => rfl
  | succ n ih => rw [cmpFrom, if_neg (by omega), if_neg (by omega), ih]
theorem cmpL_self (a : List Int) : cmpL a a = 0 := by
  unfold cmpL
  rw [if_neg (by omega), if_neg (by omega), cmpFrom_self]
theorem cmpFrom_neg (a b : List Int) (n : Nat) : cmpFrom b a n = - cmpFrom a b n := by
  induction n with
  | zero => rfl
  | succ n ih =>
    rw [cmpFrom, cmpFrom, ih]
    by_cases h1 : rd a n < rd b n
    · rw [if_neg (by omega), if_pos h1, if_pos h1]; rfl
    · by_cases h2 : rd b n < rd a n
      · rw [if_pos h2, if_neg h1, if_pos h2]
      · rw [if_neg h2, if_neg h1, if_neg h1, if_neg h2]
theorem cmpL_neg (a b : List Int) : cmpL b a = - cmpL a b := by
  unfold cmpL
  by_cases h1 : a.length < b.length
  · rw [if_neg (by omega), if_pos h1, if_pos h1]; rfl
  · by_cases h2 : b.length < a.length
    · rw [if_pos h2, if_neg h1, if_pos h2]
    · have : b.length = a.length := by omega
      rw [if_neg h2, if_neg h1, if_neg h1, if_neg h2, this, cmpFrom_neg]
theorem cmpFrom_zero {a b : List Int} : ∀ {n : Nat}, cmpFrom a b n = 0 → ∀ i, i < n → rd a i = rd b i
  | 0, _, i, hi => by omega
  | n + 1, h, i, hi => by
    rw [cmpFrom] at h
    split at h
    · cases h
    · split at h
      · cases h
      · by_cases e : i = n
        · subst e; omega
        · exact cmpFrom_zero h i (by omega)
theorem cmpL_zero {a b : List Int} (h : cmpL a b = 0) : a = b := by
  unfold cmpL at h
  split at h
  · cases h
  · split at h
    · cases h
    · have hl : a.length = b.length := by omega
      refine List.ext_getElem hl fun i h1 h2 => ?_
      rw [← rd_at a i h1, ← rd_at b i h2]
      exact cmpFrom_zero h i h1
theorem take_succ_val {a : List Int} {n : Nat} (h : n < a.length) : val (a.take (n + 1)) = val (a.take n) + 10000 ^ n * rd a n := by
  have e : a.take (n + 1) = a.take n ++ [a[n]] := by simp
  rw [e, val_append, rd_at a n h]
  simp [val, Nat.min_eq_left (Nat.le_of_lt h)]
/-- The comparison's sign. -/
def sgn (x y : Int) : Int := if x < y then -1 else if x > y then 1 else 0
theorem mul_gap {x y p q B : Int} (hB : 0 < B) (hp : 0 ≤ p) (hp2 : p < B) (hq : 0 ≤ q) (hq2 : q < B) (h : x < y) : p + B * x < q + B * y := by
  have h1 : B * (x + 1) ≤ B * y := Int.mul_le_mul_of_nonneg_left (by omega) (by omega)
  rw [Int.mul_add, Int.mul_one] at h1
  omega
theorem pow_pos_ (n : Nat) : (0 : Int) < 10000 ^ n := Int.pow_pos (by decide)
theorem cmpFrom_sgn {a b : List Int} (ha : Dig a) (hb : Dig b) : ∀ n, n ≤ a.length → n ≤ b.length → cmpFrom a b n = sgn (val (a.take n)) (val (b.take n))
  | 0, _, _ => by simp [cmpFrom, sgn]
  | n + 1, h1, h2 => by
    have ih := cmpFrom_sgn ha hb n (by omega) (by omega)
    have pa := val_nonneg (ha.take n)
    have pb := val_nonneg (hb.take n)
    have qa := val_lt (ha.take n)
    have qb := val_lt (hb.take n)
    rw [List.length_take, Nat.min_eq_left (by omega)] at qa qb
    have hp := pow_pos_ n
    rw [cmpFrom, ih, take_succ_val h1, take_succ_val h2]
    by_cases c1 : rd a n < rd b n
    · have := mul_gap hp pa qa pb qb c1
      rw [if_pos c1, sgn, if_pos this]
    · by_cases c2 : rd b n < rd a n
      · have := mul_gap hp pb qb pa qa c2
        rw [if_neg c1, if_pos c2, sgn, if_neg (by omega), if_pos this]
      · have e : rd a n = rd b n := by omega
        rw [if_neg c1, if_neg c2, e]
        unfold sgn
        by_cases d1 : val (a.take n) < val (b.take n)
        · rw [if_pos d1, if_pos (by omega)]
        · by_cases d2 : val (a.take n) > val (b.take n)
          · rw [if_neg d1, if_pos d2, if_neg (by omega), if_pos (by omega)]
          · rw [if_neg d1, if_neg d2, if_neg (by omega), if_neg (by omega)]
theorem len_lt (n : Nat) : (n : Int) < 10000 ^ (digs n).length := by
  have := val_lt (dig_digs n)
  rwa [val_digs] at this
theorem len_le (n : Nat) (h : n ≠ 0) : (10000 : Int) ^ ((digs n).length - 1) ≤ n := by
  induction n using Nat.strongRecOn with
  | ind n ih =>
    rw [digs_pos n h, List.length_cons]
    by_cases h2 : n / 10000 = 0
    · rw [h2, digs_zero]; simp; omega
    · have := ih (n / 10000) (by omega) h2
      have hl : 0 < (digs (n / 10000)).length := by
        rw [List.length_pos_iff]
        intro e
        exact h2 ((digs_nil _).1 e)
      have e : (digs (n / 10000)).length + 1 - 1 = (digs (n / 10000)).length - 1 + 1 := by omega
      rw [e, Int.pow_succ]
      omega
theorem pow_mono {m n : Nat} (h : m ≤ n) : (10000 : Int) ^ m ≤ 10000 ^ n := by
  obtain ⟨d, rfl⟩ : ∃ d, n = m + d := ⟨n - m, by omega⟩
  rw [Int.pow_add]
  have := pow_pos_ m
  have := pow_pos_ d
  have h3 : (10000 : Int) ^ m * 1 ≤ 10000 ^ m * 10000 ^ d := Int.mul_le_mul_of_nonneg_left (by omega) (by omega)
  omega
theorem len_mono {m n : Nat} (h : (digs m).length < (digs n).length) : m < n := by
  have hn : n ≠ 0 := fun e => by subst e; rw [digs_zero] at h; simp at h
  have h1 := len_lt m
  have h2 := len_le n hn
  have h3 := pow_mono (show (digs m).length ≤ (digs n).length - 1 by omega)
  omega
theorem cmp_digs (m n : Nat) : cmpL (digs m) (digs n) = sgn m n := by
  unfold cmpL
  by_cases h1 : (digs m).length < (digs n).length
  · have := len_mono h1
    rw [if_pos h1, sgn, if_pos (by omega)]
  · by_cases h2 : (digs n).length < (digs m).length
    · have := len_mono h2
      rw [if_neg h1, if_pos h2, sgn, if_neg (by omega), if_pos (by omega)]
    · rw [if_neg h1, if_neg h2, cmpFrom_sgn (dig_digs m) (dig_digs n) _ (Nat.le_refl _) (by omega), List.take_length,
        show (digs m).length = (digs n).length by omega, List.take_length, val_digs, val_digs]

/-! ### Txt -/

theorem data_mk (s : ByteArray) : (⟨s.data.toList.toArray⟩ : ByteArray) = s := by rfl
def dvF (a : Nat) (l : List UInt8) : Nat := l.foldl (fun a c => a * 10 + (c.toNat - 48)) a
/-- The number of a decimal text. -/
def dv (l : List UInt8) : Nat := dvF 0 l
def Dec (l : List UInt8) : Prop := ∀ c ∈ l, 48 ≤ c.toNat ∧ c.toNat ≤ 57
theorem Dec.tail {c : UInt8} {l : List UInt8} (h : Dec (c :: l)) : Dec l := fun x hx => h x (List.mem_cons_of_mem _ hx)
theorem Dec.take {l : List UInt8} (h : Dec l) (n : Nat) : Dec (l.take n) := fun x hx => h x (List.mem_of_mem_take hx)
theorem Dec.drop {l : List UInt8} (h : Dec l) (n : Nat) : Dec (l.drop n) := fun x hx => h x (List.mem_of_mem_drop hx)
theorem dvF_append (a : Nat) (l r : List UInt8) : dvF a (l ++ r) = dvF (dvF a l) r := by simp [dvF]
theorem dvF_lin (l : List UInt8) : ∀ a, dvF a l = a * 10 ^ l.length + dvF 0 l := by
  induction l with
  | nil => intro a; simp [dvF]
  | cons c l ih =>
    intro a
    show dvF (a * 10 + (c.toNat - 48)) l = _ + dvF (0 * 10 + (c.toNat - 48)) l
    rw [ih, ih (0 * 10 + (c.toNat - 48)), List.length_cons, Nat.pow_succ, Nat.add_mul, Nat.add_mul, Nat.zero_mul, Nat.mul_assoc, Nat.mul_comm 10]
    omega
theorem dv_cons (c : UInt8) (l : List UInt8) : dv (c :: l) = (c.toNat - 48) * 10 ^ l.length + dv l := by
  show dvF (0 * 10 + (c.toNat - 48)) l = _
  rw [dvF_lin]
  simp [dv]
theorem dv_snoc (l : List UInt8) (c : UInt8) : dv (l ++ [c]) = dv l * 10 + (c.toNat - 48) := by
  unfold dv
  rw [dvF_append]
  rfl
theorem dv_lt {l : List UInt8} (h : Dec l) : dv l < 10 ^ l.length := by
  induction l with
  | nil => decide
  | cons c l ih =>
    have := ih h.tail
    have hc := h c (by simp)
    rw [dv_cons, List.length_cons, Nat.pow_succ, Nat.mul_comm _ 10]
    have : (c.toNat - 48) * 10 ^ l.length ≤ 9 * 10 ^ l.length := Nat.mul_le_mul_right _ (by omega)
    omega
theorem dv_pos {c : UInt8} {l : List UInt8} (h : Dec (c :: l)) (hc : c ≠ 48) : 0 < dv (c :: l) := by
  have h1 := h c (by simp)
  have h2 : c.toNat ≠ 48 := fun e => hc (UInt8.toNat_inj.1 (by simpa using e))
  have h3 : 0 < (c.toNat - 48) * 10 ^ l.length := Nat.mul_pos (by omega) (Nat.pow_pos (by decide))
  rw [dv_cons]
  omega
theorem digit_back (c : UInt8) (h : 48 ≤ c.toNat ∧ c.toNat ≤ 57) : UInt8.ofNat (48 + (c.toNat - 48)) = c := by
  rw [show 48 + (c.toNat - 48) = c.toNat by omega]
  simp
theorem dec_dv : ∀ (n : Nat) (c : UInt8) (l : List UInt8), l.length = n → Dec (c :: l) → c ≠ 48 → Lib.decDigits (dv (c :: l)) = c :: l
  | 0, c, l, hn, h, hc => by
    obtain rfl := List.eq_nil_of_length_eq_zero hn
    have h1 := h c (by simp)
    unfold Lib.decDigits
    rw [dv_cons]
    have : (c.toNat - 48) * 10 ^ ([] : List UInt8).length + dv [] = c.toNat - 48 := by simp [dv, dvF]
    rw [this, dif_pos (by omega), digit_back c h1]
  | n + 1, c, l, hn, h, hc => by
    rcases List.eq_nil_or_concat l with rfl | ⟨l', x, rfl⟩
    · cases hn
    · rw [List.concat_eq_append] at h hn ⊢
      have hx := h x (by simp)
      have hp : Dec (c :: l') := fun y hy => h y (by rcases List.mem_cons.1 hy with rfl | hy <;> simp [*])
      have ih := dec_dv n c l' (by simpa using hn) hp hc
      have hpos := dv_pos hp hc
      unfold Lib.decDigits
      have e : dv (c :: (l' ++ [x])) = dv (c :: l') * 10 + (x.toNat - 48) := dv_snoc (c :: l') x
      rw [e, dif_neg (by omega), show (dv (c :: l') * 10 + (x.toNat - 48)) / 10 = dv (c :: l') by omega, show (dv (c :: l') * 10 + (x.toNat - 48)) % 10 = x.toNat - 48 by omega, ih, digit_back x hx]
      rfl
theorem itoa_nat (n : Nat) : Lib.itoa (n : Int) = Lib.decDigits n := by
  unfold Lib.itoa
  rw [if_neg (by omega)]
  rfl
theorem pad_dv (n : Nat) : ∀ (l : List UInt8), Dec l → 0 < l.length → l.length ≤ n → (List.replicate n (48 : UInt8)).drop (Lib.decDigits (dv l)).length ++ Lib.decDigits (dv l) = List.replicate (n - l.length) 48 ++ l
  | [], _, h0, _ => by cases h0
  | c :: l, h, _, hn => by
    by_cases hc : c = 48
    · subst hc
      cases l with
      | nil =>
        have : Lib.decDigits (dv [48]) = [48] := by unfold Lib.decDigits; rfl
        rw [this]
        simp
      | cons y l =>
        have ih := pad_dv n (y :: l) h.tail (by simp) (by simp at hn ⊢; omega)
        have e : dv (48 :: y :: l) = dv (y :: l) := by rw [dv_cons]; simp
        rw [e, ih]
        simp only [List.length_cons] at hn ⊢
        obtain ⟨d, rfl⟩ : ∃ d, n = d + (l.length + 1 + 1) := ⟨n - (l.length + 1 + 1), by omega⟩
        rw [show d + (l.length + 1 + 1) - (l.length + 1) = d + 1 by omega, show d + (l.length + 1 + 1) - (l.length + 1 + 1) = d by omega, List.replicate_succ', List.append_assoc]
        rfl
    · rw [dec_dv l.length c l rfl h hc]
      simp
theorem pad4_dv {l : List UInt8} (h : Dec l) (hl : l.length = 4) : pad4 (dv l : Int) = l := by
  have := pad_dv 4 l h (by omega) (by omega)
  unfold pad4
  rw [itoa_nat]
  rw [hl] at this
  simpa using this
theorem parseUint_dec : ∀ (l : List UInt8) (acc : Nat), Dec l → (acc + 1) * 10 ^ l.length ≤ 10 ^ 18 → Lib.parseUint10 acc l = .ok (dvF acc l)
  | [], acc, _, _ => rfl
  | c :: l, acc, h, hb => by
    have hc := h c (by simp)
    rw [List.length_cons, Nat.pow_succ] at hb
    have h1 : 0 < 10 ^ l.length := Nat.pow_pos (by decide)
    have h2 : (acc + 1) * 1 ≤ (acc + 1) * (10 ^ l.length * 10) := Nat.mul_le_mul_left _ (by omega)
    rw [Lib.parseUint10, if_pos hc, if_neg (by omega), if_neg (by omega), parseUint_dec l _ h.tail ?_]
    · rfl
    · refine Nat.le_trans ?_ hb
      rw [show (acc + 1) * (10 ^ l.length * 10) = (acc * 10 + 10) * 10 ^ l.length by rw [Nat.mul_comm (10 ^ l.length), ← Nat.mul_assoc, Nat.add_mul]]
      exact Nat.mul_le_mul_right _ (by omega)
theorem atoi_dec {l : List UInt8} (h : Dec l) (h0 : l ≠ []) (hl : l.length ≤ 17) : Lib.atoiAll l = .ok (dv l : Int) := by
  cases l with
  | nil => exact absurd rfl h0
  | cons c l =>
    have hc := h c (by simp)
    have hb : (0 + 1) * 10 ^ (c :: l).length ≤ 10 ^ 18 := by
      rw [Nat.zero_add, Nat.one_mul]
      exact Nat.pow_le_pow_right (by decide) (by omega)
    have hp := parseUint_dec (c :: l) 0 h hb
    have hlt := dv_lt h
    have h3 : 10 ^ (c :: l).length ≤ 10 ^ 18 := Nat.pow_le_pow_right (by decide) (by omega)
    unfold Lib.atoiAll
    simp only
    rw [if_neg (by omega), Lib.parseMag, if_neg (by simp), hp]
    simp only
    have hd : dvF 0 (c :: l) = dv (c :: l) := rfl
    rw [hd]
    rw [if_neg (by omega), if_neg (by omega), if_neg (by omega)]
/-- The digits in the base 10000 of a decimal text, the least one first. -/
def nums (s : List UInt8) : List Int := if h : s = [] then [] else (dv (s.drop (s.length - 4)) : Int) :: nums (s.take (s.length - 4))
termination_by s.length
decreasing_by
  have : 0 < s.length := List.length_pos_iff.2 h
  rw [List.length_take]
  omega
theorem nums_nil : nums [] = [] := by unfold nums; simp
theorem nums_cons (s : List UInt8) (h : s ≠ []) : nums s = (dv (s.drop (s.length - 4)) : Int) :: nums (s.take (s.length - 4)) := by rw [nums]; simp [h]
theorem nums_dig {s : List UInt8} (h : Dec s) : Dig (nums s) := by
  generalize hn : s.length = n
  induction n using Nat.strongRecOn generalizing s with
  | ind n ih =>
    by_cases h0 : s = []
    · subst h0; rw [nums_nil]; exact Dig.nil
    · have hp : 0 < s.length := List.length_pos_iff.2 h0
      rw [nums_cons s h0]
      intro d hd
      rcases List.mem_cons.1 hd with rfl | hd
      · have h1 := dv_lt (h.drop (s.length - 4))
        have h2 : 10 ^ (s.drop (s.length - 4)).length ≤ 10 ^ 4 := Nat.pow_le_pow_right (by decide) (by rw [List.length_drop]; omega)
        omega
      · exact ih (s.take (s.length - 4)).length (by rw [List.length_take]; omega) (h.take _) rfl d hd
theorem nums_len (s : List UInt8) : 4 * (nums s).length ≤ s.length + 3 := by
  generalize hn : s.length = n
  induction n using Nat.strongRecOn generalizing s with
  | ind n ih =>
    by_cases h0 : s = []
    · subst h0; rw [nums_nil]; simp
    · have hp : 0 < s.length := List.length_pos_iff.2 h0
      rw [nums_cons s h0, List.length_cons]
      by_cases h4 : s.length ≤ 4
      · have : s.take (s.length - 4) = [] := by rw [show s.length - 4 = 0 by omega]; rfl
        rw [this, nums_nil]
        simp; omega
      · have := ih (s.take (s.length - 4)).length (by rw [List.length_take]; omega) (s.take (s.length - 4)) rfl
        rw [List.length_take] at this
        omega
theorem fmtL_cons (c : Int) (l : List Int) (h : l ≠ []) : fmtL (c :: l) = fmtL l ++ pad4 c := by
  unfold fmtL
  rw [List.reverse_cons]
  cases hr : l.reverse with
  | nil => exact absurd (by simpa using hr) h
  | cons d r => simp
theorem nums_back {s : List UInt8} (h : Dec s) (h0 : s ≠ []) (hz : s.head? ≠ some 48) : tr (nums s) = nums s ∧ fmtL (nums s) = s ∧ nums s ≠ [] := by
  generalize hn : s.length = n
  induction n using Nat.strongRecOn generalizing s with
  | ind n ih =>
    have hp : 0 < s.length := List.length_pos_iff.2 h0
    rw [nums_cons s h0]
    by_cases h4 : s.length ≤ 4
    · have e : s.take (s.length - 4) = [] := by rw [show s.length - 4 = 0 by omega]; rfl
      have e2 : s.drop (s.length - 4) = s := by rw [show s.length - 4 = 0 by omega]; rfl
      rw [e, e2, nums_nil]
      cases s with
      | nil => exact absurd rfl h0
      | cons c l =>
        have hc : c ≠ 48 := fun e => hz (by rw [e]; rfl)
        have := dv_pos h hc
        refine ⟨by rw [tr, tr, if_pos rfl, if_neg (by omega)], ?_, by simp⟩
        unfold fmtL
        simp only [List.reverse_cons, List.reverse_nil, List.nil_append, List.flatMap_nil, List.append_nil]
        rw [itoa_nat, dec_dv l.length c l rfl h hc]
    · have hne : s.take (s.length - 4) ≠ [] := fun e => by
        have := congrArg List.length e
        rw [List.length_take] at this
        simp at this
        omega
      have hh : (s.take (s.length - 4)).head? ≠ some 48 := by
        rw [List.head?_take, if_neg (by omega)]
        exact hz
      obtain ⟨i1, i2, i3⟩ := ih (s.take (s.length - 4)).length (by rw [List.length_take]; omega) (h.take _) hne hh rfl
      refine ⟨by rw [tr, i1, if_neg i3], ?_, by simp⟩
      rw [fmtL_cons _ _ i3, i2, pad4_dv (h.drop _) (by rw [List.length_drop]; omega), List.take_append_drop]
theorem tr_getLast (l : List Int) : (tr l).getLast? ≠ some 0 := by
  generalize hn : l.length = n
  induction n generalizing l with
  | zero => obtain rfl := List.eq_nil_of_length_eq_zero hn; simp [tr]
  | succ n ih =>
    rcases List.eq_nil_or_concat l with rfl | ⟨l', x, rfl⟩
    · cases hn
    · rw [List.concat_eq_append] at hn ⊢
      by_cases hx : x = 0
      · subst hx
        rw [tr_zero]
        exact ih l' (by simpa using hn)
      · rw [tr_last l' x hx]
        simpa using hx
theorem tr_dig {l : List Int} (h : Dig l) : Dig (tr l) := by rw [tr_digs h]; exact dig_digs _
theorem valid_tr {l : List Int} (h : Dig l) (hl : (tr l).length ≤ 200) : validB (tr l) = true := by
  unfold validB
  rw [decide_eq_true hl]
  have h1 := tr_getLast l
  have h2 := tr_dig h
  simp only [Bool.true_and, Bool.and_eq_true, Bool.not_eq_true', beq_eq_false_iff_ne, ne_eq, List.all_eq_true, decide_eq_true_eq]
  exact ⟨h1, h2⟩
theorem fmt_nums {s : List UInt8} (h : Dec s) (h0 : s ≠ []) (hz : s.head? = some 48 → s = [48]) : fmtL (tr (nums s)) = s := by
  by_cases hh : s.head? = some 48
  · rw [hz hh]
    have e : nums [48] = [0] := by rw [nums_cons _ (by simp)]; simp [nums_nil, dv, dvF]
    rw [e]
    rfl
  · obtain ⟨i1, i2, _⟩ := nums_back h h0 hh
    rw [i1, i2]

/-! ### PuMul -/

theorem val_set (l : List Int) : ∀ (p : Nat) (v : Int) (h : p < l.length), val (l.set p v) = val l + (v - rd l p) * 10000 ^ p := by
  induction l with
  | nil => intro p v h; cases h
  | cons d l ih =>
    intro p v h
    cases p with
    | zero => simp [val, rd]; omega
    | succ p =>
      have := ih p v (by simpa using h)
      have e : rd (d :: l) ((p + 1 : Nat) : Int) = rd l (p : Int) := by unfold rd; simp
      rw [List.set_cons_succ, val, this, val, e, Int.pow_succ]
      grind
theorem rd_set (l : List Int) (p q : Nat) (v : Int) (h : p < l.length) : rd (l.set p v) (q : Int) = if q = p then v else rd l q := by
  unfold rd
  simp only [List.getD_eq_getElem?_getD, Int.toNat_natCast]
  by_cases e : q = p
  · subst e
    rw [if_pos rfl]
    simp [h]
  · rw [if_neg e, List.getElem?_set_ne (fun x => e x.symm)]
theorem dig_rd {l : List Int} (h : Dig l) (p : Nat) : 0 ≤ rd l p ∧ rd l p < 10000 := by
  unfold rd
  rw [List.getD_eq_getElem?_getD, Int.toNat_natCast]
  by_cases hp : p < l.length
  · rw [List.getElem?_eq_getElem hp]
    exact h _ (List.getElem_mem hp)
  · rw [List.getElem?_eq_none (by omega)]
    decide
theorem Dig.set {l : List Int} (h : Dig l) (p : Nat) {v : Int} (h0 : 0 ≤ v) (h1 : v < 10000) : Dig (l.set p v) := fun x hx => by
  rcases List.mem_or_eq_of_mem_set hx with h2 | h2
  · exact h x h2
  · rw [h2]; exact ⟨h0, h1⟩
theorem dig_zeros (n : Nat) : Dig (List.replicate n 0) := fun x hx => by
  rw [List.eq_of_mem_replicate hx]
  decide
theorem val_zeros (n : Nat) : val (List.replicate n 0) = 0 := by
  induction n with
  | zero => rfl
  | succ n ih => rw [List.replicate_succ, val, ih]; rfl
theorem rd_zeros (n p : Nat) : rd (List.replicate n 0) (p : Int) = 0 := by
  unfold rd
  rw [List.getD_eq_getElem?_getD, Int.toNat_natCast]
  by_cases hp : p < n
  · rw [List.getElem?_replicate, if_pos hp]; rfl
  · rw [List.getElem?_replicate, if_neg hp]; rfl
theorem mul_le_ {x y : Int} (hx : 0 ≤ x) (hx1 : x < 10000) (hy : 0 ≤ y) (hy1 : y < 10000) : 0 ≤ x * y ∧ x * y ≤ 99980001 := by
  refine ⟨Int.mul_nonneg hx hy, ?_⟩
  have h1 : x * y ≤ 9999 * y := Int.mul_le_mul_of_nonneg_right (by omega) hy
  omega
/-- What stands between two places of the inner round. -/
structure Inner (a b out0 out : List Int) (i j : Nat) (c : Int) : Prop where
  len : out.length = out0.length
  dig : Dig out
  c0 : 0 ≤ c
  c1 : c < 10000
  top : ∀ p : Nat, i + b.length ≤ p → rd out p = 0
  eq : val out + c * 10000 ^ (i + j) = val out0 + rd a i * val (b.take j) * 10000 ^ i
theorem Inner.start {a b out0 : List Int} {i : Nat} (hd : Dig out0) (ht : ∀ p : Nat, i + b.length ≤ p → rd out0 p = 0) : Inner a b out0 out0 i 0 0 :=
  ⟨rfl, hd, by decide, by decide, ht, by simp [val]⟩
theorem Inner.next {a b out0 out : List Int} {i j : Nat} {c q r : Int} (h : Inner a b out0 out i j c) (hj : j < b.length) (hl : i + j < out.length) (hq0 : 0 ≤ q) (hq1 : q < 10000) (hr0 : 0 ≤ r) (hr1 : r < 10000)
    (he : c + (rd out ((i + j : Nat) : Int) + rd a i * rd b j) = 10000 * q + r) : Inner a b out0 (out.set (i + j) r) i (j + 1) q := by
  refine ⟨by rw [List.length_set]; exact h.len, h.dig.set _ hr0 hr1, hq0, hq1, fun p hp => ?_, ?_⟩
  · rw [rd_set _ _ _ _ hl, if_neg (by omega)]
    exact h.top p hp
  · have h1 := h.eq
    rw [val_set _ _ _ hl, take_succ_val hj, show i + (j + 1) = i + j + 1 by omega, Int.pow_succ]
    have e : (10000 : Int) ^ (i + j) = 10000 ^ i * 10000 ^ j := Int.pow_add ..
    rw [e] at h1 ⊢
    clear h
    generalize rd out ((i + j : Nat) : Int) = o at *
    generalize rd a (i : Int) = x at *
    generalize rd b (j : Int) = y at *
    generalize (10000 : Int) ^ i = P at *
    generalize (10000 : Int) ^ j = Q at *
    generalize val (b.take j) = V at *
    generalize val out = U at *
    grind
/-- What stands between two outer rounds. -/
structure Outer (a b out : List Int) (n i : Nat) : Prop where
  len : out.length = n
  dig : Dig out
  top : ∀ p : Nat, i + b.length ≤ p → rd out p = 0
  eq : val out = val (a.take i) * val b
theorem Outer.start (a b : List Int) (n : Nat) : Outer a b (List.replicate n 0) n 0 := ⟨List.length_replicate, dig_zeros n, fun p _ => rd_zeros n p, by rw [val_zeros]; simp [val]⟩
theorem Outer.next {a b out0 out : List Int} {n i : Nat} {c : Int} (h0 : Outer a b out0 n i) (h : Inner a b out0 out i b.length c) (hi : i < a.length) (hl : i + b.length < n) : Outer a b (out.set (i + b.length) c) n (i + 1) := by
  have hl' : i + b.length < out.length := by rw [h.len, h0.len]; exact hl
  refine ⟨by rw [List.length_set, h.len]; exact h0.len, h.dig.set _ h.c0 h.c1, fun p hp => ?_, ?_⟩
  · rw [rd_set _ _ _ _ hl', if_neg (by omega)]
    exact h.top p (by omega)
  · have h1 := h.eq
    have h2 := h0.eq
    have h3 := h.top (i + b.length) (Nat.le_refl _)
    rw [List.take_length] at h1
    rw [val_set _ _ _ hl', take_succ_val hi, h3]
    have e : (10000 : Int) ^ (i + b.length) = 10000 ^ i * 10000 ^ b.length := Int.pow_add ..
    rw [e] at h1 ⊢
    clear h h0
    generalize rd a (i : Int) = x at *
    generalize (10000 : Int) ^ i = P at *
    generalize (10000 : Int) ^ b.length = Q at *
    generalize val (a.take i) = A at *
    generalize val b = B at *
    grind
theorem Outer.done {a b out : List Int} {n : Nat} (h : Outer a b out n a.length) : tr out = digs (val a * val b).toNat := by
  rw [tr_digs h.dig, h.eq, List.take_length]
/-- A result, or that it is too large. -/
def fit (n : Nat) : List Int × Int := if (digs n).length > 200 then ([], 3) else (digs n, 0)
theorem validB_parts {l : List Int} (h : validB l = true) : l.length ≤ 200 ∧ Dig l ∧ l.getLast? ≠ some 0 := by
  unfold validB at h
  simp only [Bool.and_eq_true, decide_eq_true_eq, Bool.not_eq_true', beq_eq_false_iff_ne, List.all_eq_true] at h
  exact ⟨h.1.1, h.2, h.1.2⟩
theorem digs_le (n m : Nat) (h : (n : Int) < 10000 ^ m) : (digs n).length ≤ m := by
  by_cases h0 : n = 0
  · subst h0; rw [digs_zero]; simp
  · have h1 := len_le n h0
    rcases Nat.lt_or_ge m (digs n).length with h2 | h2
    · have := pow_mono (show m ≤ (digs n).length - 1 by omega)
      omega
    · exact h2
theorem prod_len {a b : List Int} (ha : Dig a) (hb : Dig b) : (digs (val a * val b).toNat).length ≤ a.length + b.length := by
  apply digs_le
  have h1 := val_nonneg ha
  have h2 := val_nonneg hb
  have h3 := val_lt ha
  have h4 := val_lt hb
  have h5 := Int.mul_nonneg h1 h2
  have h6 : val a * val b ≤ val a * 10000 ^ b.length := Int.mul_le_mul_of_nonneg_left (by omega) h1
  have h7 : val a * 10000 ^ b.length < 10000 ^ a.length * 10000 ^ b.length := Int.mul_lt_mul_of_pos_right h3 (pow_pos_ _)
  rw [Int.pow_add, Int.toNat_of_nonneg h5]
  omega
def mulR (a b : List Int) : List Int × Int := if validB a = true ∧ validB b = true then fit (val a * val b).toNat else ([], 1)
theorem fit_len (n : Nat) : (fit n).1.length ≤ 200 := by
  unfold fit
  split
  · simp
  · simpa using Nat.le_of_not_gt (by assumption)
theorem mulR_len (a b : List Int) : (mulR a b).1.length ≤ 200 := by
  unfold mulR
  split
  · exact fit_len _
  · simp

/-! ### PuAdd -/

theorem rd_out (l : List Int) (i : Nat) (h : l.length ≤ i) : rd l (i : Int) = 0 := by
  unfold rd
  rw [List.getD_eq_getElem?_getD, Int.toNat_natCast, List.getElem?_eq_none h]
  rfl
theorem vt_succ (l : List Int) (i : Nat) : val (l.take (i + 1)) = val (l.take i) + 10000 ^ i * rd l i := by
  by_cases h : i < l.length
  · exact take_succ_val h
  · rw [rd_out l i (by omega), Int.mul_zero, Int.add_zero, List.take_of_length_le (by omega), List.take_of_length_le (by omega)]
theorem val_snoc (l : List Int) (d : Int) : val (l ++ [d]) = val l + 10000 ^ l.length * d := by
  rw [val_append]
  simp [val]
theorem full {l : List Int} (h : Dig l) (h0 : l ≠ []) (hv : 10000 ^ (l.length - 1) ≤ val l) : l = digs (val l).toNat := by
  refine norm_digs h ?_
  intro e
  rcases List.eq_nil_or_concat l with rfl | ⟨l', x, rfl⟩
  · exact h0 rfl
  · rw [List.concat_eq_append] at *
    have hx : x = 0 := by simpa using e
    subst hx
    have := val_lt (Dig.append h).1
    rw [val_snoc, List.length_append, List.length_singleton, Nat.add_sub_cancel] at hv
    omega
structure Sum (a b out : List Int) (i : Nat) (c : Int) : Prop where
  len : out.length = i
  dig : Dig out
  c0 : 0 ≤ c
  c1 : c ≤ 1
  eq : val out + c * 10000 ^ i = val (a.take i) + val (b.take i)
theorem Sum.start (a b : List Int) : Sum a b [] 0 0 := ⟨rfl, Dig.nil, by decide, by decide, by simp [val]⟩
theorem Sum.next {a b out : List Int} {i : Nat} {c q r : Int} (h : Sum a b out i c) (q0 : 0 ≤ q) (q1 : q ≤ 1) (r0 : 0 ≤ r) (r1 : r < 10000) (he : c + rd a i + rd b i = 10000 * q + r) : Sum a b (out ++ [r]) (i + 1) q := by
  refine ⟨by rw [List.length_append, h.len]; rfl, h.dig.join (Dig.one r0 r1), q0, q1, ?_⟩
  have h1 := h.eq
  rw [val_snoc, h.len, vt_succ a i, vt_succ b i, Int.pow_succ]
  clear h
  generalize rd a (i : Int) = x at *
  generalize rd b (i : Int) = y at *
  generalize (10000 : Int) ^ i = P at *
  generalize val (a.take i) = A at *
  generalize val (b.take i) = B at *
  generalize val out = U at *
  grind
/-- What stands between two places of a difference. -/
structure Dif (a b : List Int) (v : Int) (i : Nat) (c : Int) : Prop where
  c0 : 0 ≤ c
  c1 : c ≤ 1
  eq : v - c * 10000 ^ i = val (a.take i) - val (b.take i)
theorem minus {c x y : Int} (hc : 0 ≤ c) (hc1 : c ≤ 1) (hx : 0 ≤ x) (hx1 : x < 10000) (hy : 0 ≤ y) (hy1 : y < 10000) :
    (x - c - y < 0 ∧ 0 ≤ x - c - y + 10000 ∧ x - c - y + 10000 < 10000) ∨ (¬ x - c - y < 0 ∧ 0 ≤ x - c - y ∧ x - c - y < 10000) := by omega
/-! ### PuDiv -/

theorem dig1 (d : Nat) (h : d < 10000) : Dig [(d : Int)] := Dig.one (by omega) (by omega)
theorem val1 (d : Int) : val [d] = d := by simp [val]
theorem len_of_lt {m n : Nat} (h : m ≤ n) : (digs m).length ≤ (digs n).length := by
  rcases Nat.lt_or_ge (digs n).length (digs m).length with h2 | h2
  · have := len_mono h2
    omega
  · exact h2
theorem digs_app (d R : Nat) (hd : d < 10000) : tr ([(d : Int)] ++ digs R) = digs (d + 10000 * R) := by
  rw [tr_digs ((dig1 d hd).join (dig_digs R))]
  congr 1
  rw [List.singleton_append, val, val_digs]
  omega
theorem sgn_le (m n : Nat) : (sgn m n ≤ 0) ↔ m ≤ n := by
  unfold sgn
  by_cases h1 : (m : Int) < n
  · rw [if_pos h1]; omega
  · by_cases h2 : (m : Int) > n
    · rw [if_neg h1, if_pos h2]; omega
    · rw [if_neg h1, if_neg h2]; omega
/-- A step of the division from the top. -/
theorem div_step (n hi d : Nat) (hn : 0 < n) : (d + 10000 * hi) / n = 10000 * (hi / n) + (d + 10000 * (hi % n)) / n ∧ (d + 10000 * hi) % n = (d + 10000 * (hi % n)) % n := by
  have e : d + 10000 * hi = (d + 10000 * (hi % n)) + n * (10000 * (hi / n)) := by
    have := Nat.div_add_mod hi n
    generalize hi / n = q at *
    generalize hi % n = r at *
    subst this
    grind
  rw [e, Nat.add_mul_div_left _ _ hn, Nat.add_mul_mod_self_left]
  exact ⟨by omega, rfl⟩
theorem div_small (n hi d : Nat) (hn : 0 < n) (hd : d < 10000) : (d + 10000 * (hi % n)) / n < 10000 := by
  rw [Nat.div_lt_iff_lt_mul hn]
  have := Nat.mod_lt hi hn
  omega
/-- The number at the top of a row, from place i on. -/
def top (a : List Int) (i : Nat) : Nat := (val (a.drop i)).toNat
theorem top_step {a : List Int} (ha : Dig a) {i : Nat} (hi : i < a.length) : top a i = (rd a i).toNat + 10000 * top a (i + 1) := by
  unfold top
  have e0 : a.drop i = a[i] :: a.drop (i + 1) := List.drop_eq_getElem_cons hi
  have hd : Dig (a.drop (i + 1)) := fun x hx => ha x (List.mem_of_mem_drop hx)
  have h1 := val_nonneg hd
  have h2 := ha _ (List.getElem_mem hi)
  rw [e0, val, rd_at a i hi]
  omega
theorem top_len {a : List Int} : top a a.length = 0 := by unfold top; rw [List.drop_length]; rfl
theorem top_zero (a : List Int) : top a 0 = (val a).toNat := rfl
theorem top_digs_len {a : List Int} (ha : Dig a) (i : Nat) : (digs (top a i)).length ≤ a.length := by
  apply digs_le
  have hd : Dig (a.drop i) := fun x hx => ha x (List.mem_of_mem_drop hx)
  have h1 := val_lt hd
  have h2 := val_nonneg hd
  have h3 := pow_mono (show (a.drop i).length ≤ a.length by rw [List.length_drop]; omega)
  unfold top
  omega
/-! ### PuGcd -/
/-- The answer of Div. -/
def divR (a b : List Int) : List Int × List Int × Int := if validB a = true ∧ validB b = true then (if (val b).toNat = 0 then ([], [], 6) else (digs ((val a).toNat / (val b).toNat), digs ((val a).toNat % (val b).toNat), 0)) else ([], [], 1)
theorem len_zero (n : Nat) : ((digs n).length : Int) = 0 ↔ n = 0 := by
  constructor
  · intro h
    exact (digs_nil n).1 (List.eq_nil_of_length_eq_zero (by omega))
  · intro h
    rw [h, digs_zero]
    rfl
/-- The answer of Gcd. -/
def gcdR (a b : List Int) : List Int × Int := if validB a = true ∧ validB b = true then (digs (Nat.gcd (val a).toNat (val b).toNat), 0) else ([], 1)
theorem half_val {l : List Int} {i h t : Nat} {v : Int} (hi : i < l.length) (hz : rd l i = 0) (hv : v = (h : Int)) (he : val l = 10000 ^ (i + 1) * (t : Int)) : val (l.set i v) = 10000 ^ i * ((10000 * t + h : Nat) : Int) := by
  rw [val_set _ _ _ hi, hz, he, hv, Int.pow_succ, Int.natCast_add, Int.natCast_mul]
  generalize (t : Int) = x
  generalize (h : Int) = y
  generalize (10000 : Int) ^ i = P
  grind
theorem nat_dig {h : Nat} (hh : h < 10000) : 0 ≤ (h : Int) ∧ (h : Int) < 10000 := by omega
theorem gcd_two {x y : Nat} (hx : x % 2 = 0) (hy : y % 2 = 0) : Nat.gcd x y = 2 * Nat.gcd (x / 2) (y / 2) := by
  rw [← Nat.gcd_mul_left]
  congr 1 <;> omega
theorem co_two {y : Nat} (hy : ¬ y % 2 = 0) : Nat.Coprime 2 y := by
  show Nat.gcd 2 y = 1
  rw [Nat.gcd_rec, show y % 2 = 1 by omega, Nat.gcd_one_left]
theorem gcd_half_l {x y : Nat} (hx : x % 2 = 0) (hy : ¬ y % 2 = 0) : Nat.gcd x y = Nat.gcd (x / 2) y := by
  have := Nat.Coprime.gcd_mul_left_cancel (x / 2) (co_two hy)
  rw [show 2 * (x / 2) = x by omega] at this
  exact this
theorem gcd_half_r {x y : Nat} (hx : ¬ x % 2 = 0) (hy : y % 2 = 0) : Nat.gcd x y = Nat.gcd x (y / 2) := by
  rw [Nat.gcd_comm, gcd_half_l hy hx, Nat.gcd_comm]
theorem gcd_sub_ {x y : Nat} (h : y ≤ x) : Nat.gcd x y = Nat.gcd y (x - y) := by
  obtain ⟨d, rfl⟩ : ∃ d, x = y + d := ⟨x - y, by omega⟩
  rw [Nat.add_sub_cancel_left]
  have : Nat.gcd (y + d) y = Nat.gcd d y := by simp
  rw [this, Nat.gcd_comm]
theorem sgn_pos (x y : Nat) (h : sgn x y > 0) : y < x := by
  unfold sgn at h
  by_cases h1 : (x : Int) < y
  · rw [if_pos h1] at h; omega
  · by_cases h2 : (x : Int) > y
    · omega
    · rw [if_neg h1, if_neg h2] at h; omega
theorem pow14 (m : Nat) : 10000 ^ m ≤ 2 ^ (14 * m) := by
  rw [Nat.pow_mul]
  exact Nat.pow_le_pow_left (by decide) m
theorem big_pow_ (B t m : Nat) (lB : (digs B).length ≤ m) (h : 14 * m ≤ t) (h1 : 2 ^ t ≤ B) : False := by
  have h2 := len_lt B
  have h3 := pow_mono lB
  have h4 : (B : Int) < ((10000 ^ m : Nat) : Int) := by rw [Int.natCast_pow]; exact Int.lt_of_lt_of_le h2 h3
  have h5 : B < 10000 ^ m := Int.ofNat_lt.1 h4
  have h7 : 2 ^ (14 * m) ≤ 2 ^ t := Nat.pow_le_pow_right (by decide) h
  exact Nat.lt_irrefl _ (Nat.lt_of_lt_of_le h5 (Nat.le_trans (pow14 m) (Nat.le_trans h7 h1)))
theorem big_pow (B t : Nat) (lB : (digs B).length ≤ 400) (h : 6000 < t) (h1 : 2 ^ t ≤ B) : False := big_pow_ B t 400 lB (by omega) h1
theorem add_len' (m n b : Nat) (hm : (digs m).length ≤ b) (hn : (digs n).length ≤ b) : (digs (m + n)).length ≤ b + 1 := by
  apply digs_le
  have h1 := len_lt m
  have h2 := len_lt n
  have h3 := pow_mono hm
  have h4 := pow_mono hn
  rw [Int.pow_succ]
  omega
/-! ### PuValid -/

theorem tdiv_ (n : Nat) (m : Nat) : Int.tdiv (n : Int) (m : Int) = ((n / m : Nat) : Int) := by
  rw [Int.tdiv_eq_ediv_of_nonneg (by omega)]
  exact (Int.natCast_ediv n m).symm
theorem tmod_ (n : Nat) (m : Nat) : Int.tmod (n : Int) (m : Int) = ((n % m : Nat) : Int) := by
  rw [Int.tmod_eq_emod_of_nonneg (by omega)]
  exact (Int.natCast_emod n m).symm
theorem digs_len (n : Nat) (h : n < 10000000000000000000) : (digs n).length ≤ 5 := by
  by_cases h0 : n = 0
  · subst h0; rw [digs_zero]; simp
  rw [digs_pos n h0, List.length_cons]
  by_cases h1 : n / 10000 = 0
  · rw [h1, digs_zero]; simp
  rw [digs_pos _ h1, List.length_cons]
  by_cases h2 : n / 10000 / 10000 = 0
  · rw [h2, digs_zero]; simp
  rw [digs_pos _ h2, List.length_cons]
  by_cases h3 : n / 10000 / 10000 / 10000 = 0
  · rw [h3, digs_zero]; simp
  rw [digs_pos _ h3, List.length_cons]
  by_cases h4 : n / 10000 / 10000 / 10000 / 10000 = 0
  · rw [h4, digs_zero]; simp
  rw [digs_pos _ h4, List.length_cons]
  rw [show n / 10000 / 10000 / 10000 / 10000 / 10000 = 0 by omega, digs_zero]
  simp
def ofI (n : Int) : List Int × Int := if n < 0 then ([], 6) else (digs n.toNat, 0)
theorem ofI_len (n : Int) (h : n ≤ 9223372036854775807) : (ofI n).1.length ≤ 5 := by
  unfold ofI
  split
  · simp
  · exact digs_len n.toNat (by omega)
theorem cmpFrom_abs (a b : List Int) (n : Nat) : -1 ≤ cmpFrom a b n ∧ cmpFrom a b n ≤ 1 := by
  induction n with
  | zero => simp [cmpFrom]
  | succ n ih =>
    rw [cmpFrom]
    split
    · omega
    · split
      · omega
      · exact ih
theorem cmpL_abs (a b : List Int) : -1 ≤ cmpL a b ∧ cmpL a b ≤ 1 := by
  unfold cmpL
  split
  · omega
  · split
    · omega
    · exact cmpFrom_abs a b _
/-! ### PuRing -/
theorem add_len (m n b : Nat) (hm : (digs m).length ≤ b) (hn : (digs n).length ≤ b) : (digs (m + n)).length ≤ b + 1 := by
  apply digs_le
  have h1 := len_lt m
  have h2 := len_lt n
  have h3 := pow_mono hm
  have h4 := pow_mono hn
  rw [Int.pow_succ]
  omega
theorem mul_len (m n : Nat) : (digs (m * n)).length ≤ (digs m).length + (digs n).length := by
  have := prod_len (dig_digs m) (dig_digs n)
  rw [val_digs, val_digs, ← Int.natCast_mul] at this
  exact this
theorem fit_ok (n : Nat) (h : (digs n).length ≤ 200) : fit n = (digs n, 0) := by
  unfold fit
  rw [if_neg (by omega)]
end Go.VN


namespace Go.VS.YtlogclmmeikbpaaDoor
open Go Go.VL Go.VN Go.RowKit Go.Proofs
set_option maxRecDepth 100000
set_option linter.unusedVariables false

theorem gd_take {l : List Int} {m i : Nat} (h : i < m) : (l.take m).getD i 0 = l.getD i 0 := by
  rw [List.getD_eq_getElem?_getD, List.getD_eq_getElem?_getD, List.getElem?_take, if_pos h]
theorem take_snoc {l : List Int} {m : Nat} (h : m < l.length) : l.take (m + 1) = l.take m ++ [l.getD m 0] := by
  rw [List.take_add_one, List.getD_eq_getElem?_getD, List.getElem?_eq_getElem h]; rfl
theorem s_trimmed (l : List Int) : Spc X 65 [.one (slc eI l)] (.one (slc eI (tr l))) := by
  refine Spc.start Tryd.func65 rfl (h := fun hs R hR => ?_)
  have hlen := (sane_I hs.1).1
  unfold Tryd.f65
  simp only [entryE, PA.av]
  refine walk (hQ := ?_)
  refine Lp.intro (fun m : Nat => ⟨[(0, vP (slc eI (l.take m)))], [], 0⟩) (fun m => m ≤ l.length ∧ tr (l.take m) = tr l) (fun m => m) l.length ⟨Nat.le_refl _, by simp⟩ (h0 := le_auto (he := ⟨⟨_, rfl, avLe_slc (by simp)⟩, trivial⟩)) (hr := fun m K ⟨hm, he⟩ hK => ?_)
  have hl : (l.take m).length = m := by simp [hm]
  refine walk (hQ := ?_)
  refine R_g_if (h1 := fun hp => ?_) (h2 := fun hp => ?_)
  · simp only [if_true, hl] at hp
    refine walk (hQ := ?_)
    obtain ⟨q, rfl⟩ : ∃ q, m = q + 1 := ⟨m - 1, by omega⟩
    have e1 : ((l.take (q + 1)).length - 1 : Int).toNat = q := by omega
    rw [e1, gd_take (by omega)]
    refine W_if (ht := fun h0 => ?_) (hf := fun h0 => ?_)
    · refine walk (hQ := ?_)
      refine hK _ q ⟨by omega, ?_⟩ (by omega) ?_
      · rw [← he, take_snoc (by omega), h0, tr_zero]
      · exact le_auto (he := ⟨⟨_, rfl, avLe_slc (by rw [e1, List.take_take, Nat.min_eq_left (by omega)])⟩, trivial⟩)
    · refine walk (hQ := ?_)
      refine hR _ (ret1 (hp := ?_))
      rw [← he, take_snoc (by omega), tr_last _ _ h0]
  · simp only [if_true, hl] at hp
    refine walk (hQ := ?_)
    refine hR _ (ret1 (hp := ?_))
    rw [← he]
    obtain rfl : m = 0 := by omega
    simp [tr]
/-- A number as it is handed on. -/
abbrev nt (l : List Int) : PA := .agg [slc eI l]
theorem s_of (l : List Int) : Spc X 51 [.one (slc eI l)] (nt (tr l)) := by
  refine Spc.start Tryd.func51 rfl (h := fun hs R hR => ?_)
  unfold Tryd.f51
  simp only [entryE, PA.av]
  refine walk (hQ := ?_)
  refine R_call (s_trimmed l) (hK := ?_)
  refine walk (hQ := ?_)
  refine W_if (ht := fun h0 => ?_) (hf := fun h0 => ?_)
  · refine walk (hQ := ?_)
    refine hR _ (ret1 (hp := ?_))
    have h1 : tr l = [] := List.eq_nil_of_length_eq_zero (by omega)
    rw [h1]; rfl
  · refine walk (hQ := ?_)
    refine hR _ (ret1 (hp := ?_))
    rfl
theorem s_compare (a b : List Int) : Spc X 55 [.one (slc eI a), .one (slc eI b)] (.one (.int .i64 (cmpL a b))) := by
  refine Spc.start Tryd.func55 rfl (h := fun hs R hR => ?_)
  have ha := sane_I hs.1
  have hb := sane_I hs.2.1
  unfold Tryd.f55
  simp only [entryE, PA.av]
  refine walk (hQ := ?_)
  refine W_if (ht := fun h0 => ?_) (hf := fun h0 => ?_)
  · refine walk (hQ := ?_)
    refine W_if (ht := fun h1 => ?_) (hf := fun h1 => ?_)
    · refine walk (hQ := ?_)
      refine hR _ (ret1 (hp := ?_))
      unfold cmpL
      rw [if_pos (by omega)]
    · refine walk (hQ := ?_)
      refine hR _ (ret1 (hp := ?_))
      unfold cmpL
      rw [if_neg (by omega), if_pos (by omega)]
  · refine walk (hQ := ?_)
    refine Lp.intro (fun i : Nat => ⟨[(0, vP (slc eI a)), (1, vP (slc eI b)), (5, vI ((i : Int) - 1))], [], 0⟩) (fun i => i ≤ a.length ∧ cmpFrom a b i = cmpFrom a b a.length) (fun i => i) a.length ⟨Nat.le_refl _, rfl⟩ (h0 := le_auto) (hr := fun i K ⟨hi, he⟩ hK => ?_)
    refine walk (hQ := ?_)
    refine W_if (ht := fun h1 => ?_) (hf := fun h1 => ?_)
    · obtain ⟨j, rfl⟩ : ∃ j, i = j + 1 := ⟨i - 1, by omega⟩
      have e : (((j + 1 : Nat) : Int) - 1) = (j : Int) := by omega
      rw [e]
      rw [cmpFrom] at he
      refine walk (hQ := ?_)
      have hc : cmpL a b = cmpFrom a b a.length := by unfold cmpL; rw [if_neg (by omega), if_neg (by omega)]
      have ea : rd a (j : Int) = a.getD j 0 := rfl
      have eb : rd b (j : Int) = b.getD j 0 := rfl
      rw [ea, eb] at he
      refine W_if (ht := fun h2 => ?_) (hf := fun h2 => ?_)
      · refine walk (hQ := ?_)
        refine W_if (ht := fun h3 => ?_) (hf := fun h3 => ?_)
        · refine walk (hQ := ?_)
          refine hR _ (ret1 (hp := ?_))
          rw [hc, ← he, if_pos h3]
        · refine walk (hQ := ?_)
          refine hR _ (ret1 (hp := ?_))
          rw [hc, ← he, if_neg h3, if_pos (by omega)]
      · refine walk (hQ := ?_)
        refine hK _ j ⟨by omega, ?_⟩ (by omega) le_auto
        rw [← he, if_neg (by omega), if_neg (by omega)]
    · refine walk (hQ := ?_)
      refine hR _ (ret1 (hp := ?_))
      obtain rfl : i = 0 := by omega
      unfold cmpL
      rw [if_neg (by omega), if_neg (by omega), ← he]
      rfl
theorem s_Cmp (a b : List Int) : Spc X 26 [nt a, nt b] (.one (.int .i64 (cmpL a b))) := by
  refine Spc.start Tryd.func26 rfl (h := fun hs R hR => ?_)
  unfold Tryd.f26
  simp only [entryE, PA.av, List.map_cons, List.map_nil]
  refine walk (hQ := ?_)
  refine R_call (s_compare a b) (hK := ?_)
  refine walk (hQ := ?_)
  exact hR _ (ret1 (hp := rfl))
theorem s_fits (l : List Int) : Spc X 41 [.one (slc eI l)] (if l.length > 200 then .tup [(true, [slc eI []]), (false, [.int .i64 3])] else .tup [(true, [slc eI (tr l)]), (false, [.int .i64 0])]) := by
  refine Spc.start Tryd.func41 rfl (h := fun hs R hR => ?_)
  unfold Tryd.f41
  simp only [entryE, PA.av]
  refine walk (hQ := ?_)
  refine W_if (ht := fun h0 => ?_) (hf := fun h0 => ?_)
  · rw [if_pos (by omega)] at hR
    refine walk (hQ := ?_)
    exact hR _ (ret2 (hp := rfl))
  · rw [if_neg (by omega)] at hR
    refine walk (hQ := ?_)
    refine R_call (s_of l) (hK := ?_)
    refine walk (hQ := ?_)
    exact hR _ (ret2 (hp := rfl))
theorem s_mul (a b : List Int) (ha : Dig a) (hb : Dig b) (la : a.length ≤ 1000000) (lb : b.length ≤ 1000000) : Spc X 42 [.one (slc eI a), .one (slc eI b)] (.one (slc eI (digs (val a * val b).toNat))) := by
  refine Spc.start Tryd.func42 rfl (h := fun hs R hR => ?_)
  unfold Tryd.f42
  simp only [entryE, PA.av]
  refine walk (hQ := ?_)
  refine Lp.intro2 (fun (i : Nat) (out : List Int) => ⟨[(0, vP (slc eI a)), (1, vP (slc eI b)), (5, .one (.own 0 1 (a.length + b.length))), (17, vP (slc eI a)), (18, vI a.length), (19, vI i)], [(0, (.pu 3 (out.flatMap eI), false))], 1⟩)
    (fun i out => Outer a b out (a.length + b.length) i ∧ i ≤ a.length) (fun i _ => a.length - i) 0 _ ⟨Outer.start a b _, Nat.zero_le _⟩ (h0 := le_auto) (hr := fun i out0 K ⟨hO, hi⟩ hK => ?_)
  have hlen := hO.len
  refine walk (hQ := ?_)
  refine W_if (ht := fun h1 => ?_) (hf := fun h1 => ?_)
  · refine walk (hQ := ?_)
    refine Lp.intro3 (fun (j : Nat) (out : List Int) (c : Int) => ⟨[(0, vP (slc eI a)), (1, vP (slc eI b)), (5, .one (.own 0 1 (a.length + b.length))), (6, vI i), (7, vI (a.getD i 0)), (8, vI c), (17, vP (slc eI a)), (18, vI a.length), (19, vI i), (24, vP (slc eI b)), (25, vI b.length), (26, vI j)], [(0, (.pu 3 (out.flatMap eI), false))], 1⟩)
      (fun j out c => Inner a b out0 out i j c ∧ j ≤ b.length) (fun j _ _ => b.length - j) 0 _ 0 ⟨Inner.start hO.dig hO.top, Nat.zero_le _⟩ (h0 := le_auto) (hr := fun j out c K' ⟨hI, hj⟩ hK' => ?_)
    have hlen' : out.length = a.length + b.length := by rw [hI.len, hlen]
    have hx : 0 ≤ a.getD i 0 ∧ a.getD i 0 < 10000 := dig_rd ha i
    have hc0 := hI.c0
    have hc1 := hI.c1
    refine walk (hQ := ?_)
    refine W_if (ht := fun h2 => ?_) (hf := fun h2 => ?_)
    · have hy : 0 ≤ b.getD j 0 ∧ b.getD j 0 < 10000 := dig_rd hb j
      have ho : 0 ≤ out.getD (i + j) 0 ∧ out.getD (i + j) 0 < 10000 := dig_rd hI.dig (i + j : Nat)
      have hxy := mul_le_ hx.1 hx.2 hy.1 hy.2
      refine walk (hQ := ?_)
      refine hK' _ (j + 1) _ _ ⟨hI.next (q := (c + (out.getD (i + j) 0 + a.getD i 0 * b.getD j 0)) / 10000) (r := (c + (out.getD (i + j) 0 + a.getD i 0 * b.getD j 0)) % 10000) (by omega) (by omega) (by omega) (by omega) (by omega) (by omega) ?_, by omega⟩ (by omega) ?_
      · exact (Int.mul_ediv_add_emod _ 10000).symm
      · exact le_auto
    · obtain rfl : j = b.length := by omega
      have h3 : out.getD (i + b.length) 0 = 0 := hI.top (i + b.length) (Nat.le_refl _)
      refine walk (hQ := ?_)
      refine hK _ (i + 1) _ ⟨hO.next hI (by omega) (by omega), by omega⟩ (by omega) ?_
      rw [h3, Int.zero_add]
      exact le_auto
  · obtain rfl : i = a.length := by omega
    refine walk (hQ := ?_)
    refine R_callF (s_trimmed out0) (hK := ?_)
    refine walk (hQ := ?_)
    refine hR _ (ret1 (hp := ?_))
    rw [hO.done]
end Go.VS.YtlogclmmeikbpaaDoor


namespace Go.VS.YtlogclmmeikbpaaDoor
open Go Go.VL Go.VN Go.RowKit Go.Proofs
set_option maxRecDepth 100000
set_option linter.unusedVariables false

theorem s_cloneI (a : List Int) (la : a.length ≤ 1000000) : Spc X 43 [.one (slc eI a)] (.one (slc eI a)) := by
  refine Spc.start Tryd.func43 rfl (h := fun hs R hR => ?_)
  unfold Tryd.f43
  simp only [entryE, PA.av]
  by_cases h0 : a = []
  · subst h0
    refine walk (hQ := ?_)
    refine W_ub (ht := ?_) (hf := ?_)
    · refine walk (hQ := ?_)
      exact hR _ (ret1 (hp := rfl))
    · refine walk (hQ := ?_)
      exact hR _ (ret1 (hp := rfl))
  · have h1 := List.length_pos_iff.2 h0
    refine walk (hQ := ?_)
    exact hR _ (ret1 (hp := rfl))
/-- The same, of a list that is not empty: the copy is the caller's. -/
theorem o_cloneI (a : List Int) (la : a.length ≤ 1000000) (h0 : 0 < a.length) : SpcS X 43 [vP (slc eI a)] [] (.one (.own 0 1 a.length)) [(0, (.pu 3 (a.flatMap eI), false))] := by
  refine SpcS.start 0 Tryd.func43 rfl (h := fun hs hs2 R hR => ?_)
  unfold Tryd.f43
  simp only [entryV]
  refine walk (hQ := ?_)
  refine hR _ (retS1 (hy := ?_) (hle := ?_))
  · simp
  · exact ⟨rfl, trivial⟩
theorem gd_set {l : List Int} {i : Nat} {z : Int} (h : i < l.length) : (l.set i z).getD i 0 = z := by
  rw [List.getD_eq_getElem?_getD, List.getElem?_set_self h]; rfl
theorem s_sub (m n : Nat) (hmn : n ≤ m) (lm : (digs m).length ≤ 1000000) : Spc X 64 [.one (slc eI (digs m)), .one (slc eI (digs n))] (.one (slc eI (digs (m - n)))) := by
  refine Spc.start Tryd.func64 rfl (h := fun hs R hR => ?_)
  have la := lm
  have ha := dig_digs m
  have hb := dig_digs n
  have hv : val (digs n) ≤ val (digs m) := by rw [val_digs, val_digs]; omega
  have lb : (digs n).length ≤ (digs m).length := len_of_lt hmn
  have er : digs (m - n) = digs (val (digs m) - val (digs n)).toNat := by rw [val_digs, val_digs]; congr 1; omega
  unfold Tryd.f64
  simp only [entryE, PA.av]
  rw [er] at hR
  generalize digs m = a at *
  generalize digs n = b at *
  rcases Nat.eq_zero_or_pos a.length with h0 | h0
  · obtain rfl := List.eq_nil_of_length_eq_zero h0
    obtain rfl : b = [] := List.eq_nil_of_length_eq_zero (by simpa using lb)
    refine walk (hQ := ?_)
    refine R_call (s_cloneI _ la) (hK := ?_)
    refine walk (hQ := ?_)
    refine Lp.intro (fun _ : Unit => ⟨[(5, vP (slc eI [])), (11, vI 0), (12, vI 0)], [], 0⟩) (fun _ => True) (fun _ => 0) () trivial (h0 := le_auto) (hr := fun _ K _ hK => ?_)
    refine walk (hQ := ?_)
    refine R_call (s_trimmed []) (hK := ?_)
    refine walk (hQ := ?_)
    exact hR _ (ret1 (hp := by simp [tr, val, digs_zero]))
  · refine walk (hQ := ?_)
    refine R_callN (o_cloneI a la h0) (hK := ?_)
    refine walk (hQ := ?_)
    refine Lp.intro3 (fun (i : Nat) (out : List Int) (c : Int) => ⟨[(0, vP (slc eI a)), (1, vP (slc eI b)), (5, .one (.own 0 1 a.length)), (6, vI c), (11, vI a.length), (12, vI i)], [(0, (.pu 3 (out.flatMap eI), false))], 1⟩)
      (fun i out c => i ≤ a.length ∧ out.length = a.length ∧ Dig out ∧ 0 ≤ c ∧ c ≤ 1 ∧ (∀ p : Nat, i ≤ p → rd out p = rd a p) ∧ val out - c * 10000 ^ i = val a - val (b.take i)) (fun i _ _ => a.length - i) 0 a 0 ⟨Nat.zero_le _, rfl, ha, by omega, by omega, fun p _ => rfl, by simp [val]⟩ (h0 := le_auto) (hr := fun i out c K ⟨hi, hl, hd, c0, c1, hp, he⟩ hK => ?_)
    refine walk (hQ := ?_)
    refine W_if (ht := fun h1 => ?_) (hf := fun h1 => ?_)
    · have hx : 0 ≤ a.getD i 0 ∧ a.getD i 0 < 10000 := dig_rd ha i
      have hy : 0 ≤ b.getD i 0 ∧ b.getD i 0 < 10000 := dig_rd hb i
      have hri : out.getD i 0 = a.getD i 0 := hp i (Nat.le_refl _)
      have hil : i < out.length := by omega
      have g1 := gd_set (z := a.getD i 0 - c) hil
      have g2 := gd_set (z := a.getD i 0 - c - b.getD i 0) hil
      refine walk (hQ := ?_)
      rw [hri]
      -- behind both ways the place holds x - c - y
      have stp : ∀ (z q : Int), (a.getD i 0 - c - b.getD i 0 < 0 ∧ z = a.getD i 0 - c - b.getD i 0 + 10000 ∧ q = 1) ∨ (¬ a.getD i 0 - c - b.getD i 0 < 0 ∧ z = a.getD i 0 - c - b.getD i 0 ∧ q = 0) →
          Dig (out.set i z) ∧ (∀ p : Nat, i + 1 ≤ p → rd (out.set i z) p = rd a p) ∧ val (out.set i z) - q * 10000 ^ (i + 1) = val a - val (b.take (i + 1)) := fun z q hzq => by
        refine ⟨hd.set _ (by omega) (by omega), fun p hpp => ?_, ?_⟩
        · rw [rd_set _ _ _ _ hil, if_neg (by omega)]
          exact hp p (by omega)
        · have hpow : (10000 : Int) ^ (i + 1) = 10000 ^ i * 10000 := Int.pow_succ ..
          have e1 : rd out i = a.getD i 0 := hri
          have e2 : rd b i = b.getD i 0 := rfl
          rw [val_set _ _ _ hil, e1, vt_succ, hpow, e2]
          generalize a.getD i 0 = x at *
          generalize b.getD i 0 = y at *
          generalize (10000 : Int) ^ i = P at *
          generalize val (b.take i) = B at *
          generalize val out = U at *
          generalize val a = A at *
          clear hp hd hK hR hl hi e1 e2 g1 g2 hil
          grind
      refine W_if (ht := fun h2 => ?_) (hf := fun h2 => ?_)
      · refine walk (hQ := ?_)
        rw [g1, List.set_set, g2]
        refine W_if (ht := fun h3 => ?_) (hf := fun h3 => ?_)
        · have s := stp _ _ (.inl ⟨h3, rfl, rfl⟩)
          refine walk (hQ := ?_)
          rw [g2, List.set_set]
          exact hK _ (i + 1) _ 1 ⟨by omega, by rw [List.length_set]; exact hl, s.1, by omega, by omega, s.2.1, s.2.2⟩ (by omega) le_auto
        · have s := stp _ _ (.inr ⟨h3, rfl, rfl⟩)
          refine walk (hQ := ?_)
          exact hK _ (i + 1) _ 0 ⟨by omega, by rw [List.length_set]; exact hl, s.1, by omega, by omega, s.2.1, s.2.2⟩ (by omega) le_auto
      · have e0 : b.getD i 0 = 0 := rd_out b i (by omega)
        rw [e0, Int.sub_zero] at stp
        refine walk (hQ := ?_)
        rw [g1]
        refine W_if (ht := fun h3 => ?_) (hf := fun h3 => ?_)
        · have s := stp _ _ (.inl ⟨h3, rfl, rfl⟩)
          refine walk (hQ := ?_)
          rw [g1, List.set_set]
          exact hK _ (i + 1) _ 1 ⟨by omega, by rw [List.length_set]; exact hl, s.1, by omega, by omega, s.2.1, s.2.2⟩ (by omega) le_auto
        · have s := stp _ _ (.inr ⟨h3, rfl, rfl⟩)
          refine walk (hQ := ?_)
          exact hK _ (i + 1) _ 0 ⟨by omega, by rw [List.length_set]; exact hl, s.1, by omega, by omega, s.2.1, s.2.2⟩ (by omega) le_auto
    · refine walk (hQ := ?_)
      refine R_callF (s_trimmed out) (hK := ?_)
      refine walk (hQ := ?_)
      refine hR _ (ret1 (hp := ?_))
      obtain rfl : i = a.length := by omega
      rw [List.take_of_length_le (l := b) (by omega)] at he
      have h2 := val_lt hd
      rw [hl] at h2
      have hc : c = 0 := by
        rcases (by omega : c = 0 ∨ c = 1) with h | h
        · exact h
        · subst h; omega
      subst hc
      rw [tr_digs hd]
      congr 3
      omega
end Go.VS.YtlogclmmeikbpaaDoor


namespace Go.VS.YtlogclmmeikbpaaDoor
open Go Go.VL Go.VN Go.RowKit Go.Proofs
set_option maxRecDepth 100000
set_option linter.unusedVariables false

structure AddF (a b : List Int) (s : Nat) : Prop where
  ha : Dig a
  hb : Dig b
  la : a.length ≤ 1000000
  lb : b.length ≤ a.length
  sum : val a + val b = s
  top : a ≠ [] → 10000 ^ (a.length - 1) ≤ val a
theorem addF_of (m n : Nat) (lm : (digs m).length ≤ 1000000) (h : (digs n).length ≤ (digs m).length) : AddF (digs m) (digs n) (m + n) :=
  ⟨dig_digs m, dig_digs n, lm, h, by rw [val_digs, val_digs]; omega, fun h0 => by
    rw [val_digs]
    exact len_le m fun e => h0 (by rw [e, digs_zero])⟩
theorem add_done {a b out : List Int} {s : Nat} {c : Int} (F : AddF a b s) (hS : VN.Sum a b out a.length c) : (0 < c → out ++ [c] = digs s) ∧ (¬ 0 < c → out = digs s) := by
  have h1 := hS.eq
  have hlen := hS.len
  have c0 := hS.c0
  have c1 := hS.c1
  have lb := F.lb
  rw [List.take_length, List.take_of_length_le (l := b) (by omega), F.sum] at h1
  constructor
  · intro h
    obtain rfl : c = 1 := by omega
    have hd := hS.dig.join (Dig.one (d := 1) (by decide) (by decide))
    have hv : val (out ++ [1]) = s := by rw [val_snoc, hlen, ← h1]; omega
    rw [full hd (by simp) (by
      have := val_nonneg hS.dig
      rw [val_snoc, hlen, List.length_append, hlen]
      simp only [List.length_cons, List.length_nil, Nat.add_sub_cancel]
      omega), hv]
    congr 1
  · intro h
    obtain rfl : c = 0 := by omega
    by_cases h0 : out = []
    · subst h0
      have : s = 0 := by simp only [val] at h1; omega
      rw [this, digs_zero]
    · have hv : val out = s := by omega
      have ha0 : a ≠ [] := fun e => h0 (List.eq_nil_of_length_eq_zero (by rw [hlen, e]; rfl))
      have := F.top ha0
      have hb := val_nonneg F.hb
      have hs := F.sum
      rw [full hS.dig h0 (by rw [hlen]; omega), hv]
      congr 1
theorem s_add (m n : Nat) (lm : (digs m).length ≤ 1000000) (ln : (digs n).length ≤ 1000000) : Spc X 63 [.one (slc eI (digs m)), .one (slc eI (digs n))] (.one (slc eI (digs (m + n)))) := by
  refine Spc.start Tryd.func63 rfl (h := fun hs R hR => ?_)
  unfold Tryd.f63
  simp only [entryE, PA.av]
  clear hs
  have hm0 := addF_of m n lm
  have hn0 := addF_of n m ln
  rw [Nat.add_comm n m] at hn0
  generalize m + n = s at *
  refine walk (hQ := ?_)
  refine W_if (ht := fun h0 => ?_) (hf := fun h0 => ?_)
  case' refine_1 =>
    have F := hn0 (by omega)
    clear hm0 hn0
    refine walk (hQ := ?_)
    generalize digs n = a at *
    generalize digs m = b at *
  case' refine_2 =>
    have F := hm0 (by omega)
    clear hm0 hn0
    refine walk (hQ := ?_)
    generalize digs m = a at *
    generalize digs n = b at *
  all_goals
    have ha := F.ha
    have hb := F.hb
    have la := F.la
    have lb := F.lb
    refine Lp.intro3 (fun (i : Nat) (out : List Int) (c : Int) => ⟨[(0, vP (slc eI a)), (1, vP (slc eI b)), (5, .one (.own 0 1 out.length)), (6, vI c), (20, vP (slc eI a)), (21, vI a.length), (22, vI i)], [(0, (.pu 3 (out.flatMap eI), false))], 1⟩)
      (fun i out c => i ≤ a.length ∧ Sum a b out i c) (fun i _ _ => a.length - i) 0 [] 0 ⟨Nat.zero_le _, Sum.start a b⟩ (h0 := le_auto) (hr := fun i out c K ⟨hi, hS⟩ hK => ?_)
    have hlen := hS.len
    have c0 := hS.c0
    have c1 := hS.c1
    refine walk (hQ := ?_)
    refine W_if (ht := fun h1 => ?_) (hf := fun h1 => ?_)
    · have hx : 0 ≤ a.getD i 0 ∧ a.getD i 0 < 10000 := dig_rd ha i
      have hy : 0 ≤ b.getD i 0 ∧ b.getD i 0 < 10000 := dig_rd hb i
      refine walk (hQ := ?_)
      refine W_if (ht := fun h2 => ?_) (hf := fun h2 => ?_)
      · refine walk (hQ := ?_)
        refine hK _ (i + 1) _ _ ⟨by omega, hS.next (q := (c + a.getD i 0 + b.getD i 0) / 10000) (r := (c + a.getD i 0 + b.getD i 0) % 10000) (by omega) (by omega) (by omega) (by omega) ?_⟩ (by omega) ?_
        · exact (Int.mul_ediv_add_emod _ 10000).symm
        · exact le_auto
      · have e0 : b.getD i 0 = 0 := rd_out b i (by omega)
        refine walk (hQ := ?_)
        refine hK _ (i + 1) _ _ ⟨by omega, hS.next (q := (c + a.getD i 0 + b.getD i 0) / 10000) (r := (c + a.getD i 0 + b.getD i 0) % 10000) (by omega) (by omega) (by omega) (by omega) ?_⟩ (by omega) ?_
        · exact (Int.mul_ediv_add_emod _ 10000).symm
        · rw [e0, Int.add_zero]
          exact le_auto
    · obtain rfl : i = a.length := by omega
      have fin := add_done F hS
      refine walk (hQ := ?_)
      refine W_if (ht := fun h2 => ?_) (hf := fun h2 => ?_)
      · refine walk (hQ := ?_)
        exact hR _ (ret1 (hp := by rw [fin.1 h2]))
      · refine walk (hQ := ?_)
        exact hR _ (ret1 (hp := by rw [fin.2 h2]))
end Go.VS.YtlogclmmeikbpaaDoor


namespace Go.VS.YtlogclmmeikbpaaDoor
open Go Go.VL Go.VN Go.RowKit Go.Proofs
set_option maxRecDepth 100000
set_option linter.unusedVariables false

theorem gd_set_ne {l : List Int} {i p : Nat} (z : Int) (h : i < l.length) : (l.set i z).getD p 0 = if p = i then z else l.getD p 0 := rd_set l i p z h
theorem o_reverseI (l : List Int) (hl : l.length ≤ 1000000) : SpcS X 79 [.one (.own 1000 1 l.length)] [(1000, (.pu 3 (l.flatMap eI), false))] (.tup []) [(1000, (.pu 3 (l.reverse.flatMap eI), false))] := by
  refine SpcS.start 0 Tryd.func79 rfl (h := fun hs hs2 R hR => ?_)
  unfold Tryd.f79
  simp only [entryV]
  refine walk (hQ := ?_)
  refine Lp.intro2 (fun (i : Nat) (cur : List Int) => ⟨[(0, .one (.own 1000 1 l.length)), (2, vI i), (3, vI (l.length - 1 - i))], [(1000, (.pu 3 (cur.flatMap eI), false))], 0⟩)
    (fun i cur => i ≤ l.length ∧ 2 * i ≤ l.length + 1 ∧ cur.length = l.length ∧ ∀ p : Nat, p < l.length → cur.getD p 0 = if p < i ∨ l.length ≤ p + i then l.getD (l.length - 1 - p) 0 else l.getD p 0) (fun i _ => l.length - i) 0 l
    ⟨Nat.zero_le _, by omega, rfl, fun p hp => by rw [if_neg (by omega)]⟩ (h0 := le_auto) (hr := fun i cur K ⟨hi, hi2, hc, hp⟩ hK => ?_)
  refine walk (hQ := ?_)
  refine W_if (ht := fun h1 => ?_) (hf := fun h1 => ?_)
  · have ej : ((l.length : Int) - 1 - i) = ((l.length - 1 - i : Nat) : Int) := by omega
    rw [ej]
    generalize hj : l.length - 1 - i = j at *
    refine walk (hQ := ?_)
    refine hK _ (i + 1) ((cur.set i (cur.getD j 0)).set j (cur.getD i 0)) ⟨by omega, by omega, by rw [List.length_set, List.length_set]; exact hc, fun p hpl => ?_⟩ (by omega) le_auto
    rw [gd_set_ne _ (by rw [List.length_set]; omega), gd_set_ne _ (by omega), hp j (by omega), hp i (by omega), hp p hpl]
    by_cases e1 : p = j
    · rw [if_pos e1, if_neg (by omega), if_pos (by omega), show l.length - 1 - p = i by omega]
    · rw [if_neg e1]
      by_cases e2 : p = i
      · rw [if_pos e2, if_neg (by omega), if_pos (by omega), show l.length - 1 - p = j by omega]
      · rw [if_neg e2]
        by_cases e3 : p < i ∨ l.length ≤ p + i
        · rw [if_pos e3, if_pos (by omega)]
        · rw [if_neg e3, if_neg (by omega)]
  · refine walk (hQ := ?_)
    refine hR _ (retS0 (hle := ⟨?_, trivial⟩))
    have e : cur = l.reverse := by
      apply List.ext_getElem (by rw [List.length_reverse]; exact hc)
      intro p h2 h3
      have h4 := hp p (by omega)
      rw [List.getD_eq_getElem?_getD, List.getElem?_eq_getElem h2] at h4
      rw [List.getElem_reverse]
      split at h4
      · rw [List.getD_eq_getElem?_getD, List.getElem?_eq_getElem (by omega)] at h4
        exact h4
      · have : l.length - 1 - p = p := by omega
        rw [List.getD_eq_getElem?_getD, List.getElem?_eq_getElem (by omega)] at h4
        simp only [this]
        exact h4
    rw [e]; rfl
theorem s_mul1 (n M : Nat) (hM : M < 10000) (ln : (digs n).length ≤ 1000000) : Spc X 42 [.one (slc eI (digs n)), .one (slc eI [(M : Int)])] (.one (slc eI (digs (n * M)))) := by
  have h := s_mul (digs n) [(M : Int)] (dig_digs n) (dig1 M hM) ln (by simp)
  have e : (val (digs n) * val [(M : Int)]).toNat = n * M := by rw [val_digs, val1, ← Int.natCast_mul]; rfl
  rw [e] at h
  exact h
theorem s_divide (m n : Nat) (hn : 0 < n) (lm : (digs m).length ≤ 100000) (ln : (digs n).length ≤ 100000) : Spc X 57 [.one (slc eI (digs m)), .one (slc eI (digs n))] (.tup [(false, [slc eI (digs (m / n))]), (false, [slc eI (digs (m % n))])]) := by
  refine Spc.start Tryd.func57 rfl (h := fun hs R hR => ?_)
  unfold Tryd.f57
  simp only [entryE, PA.av]
  have ha := dig_digs m
  have ev : m = (val (digs m)).toNat := by rw [val_digs]; rfl
  have hb := dig_digs n
  refine walk (hQ := ?_)
  rw [ev] at hR
  clear ev hs
  generalize digs m = a at *
  refine Lp.intro2 (fun (i : Nat) (q : List Int) => ⟨[(0, vP (slc eI a)), (1, vP (slc eI (digs n))), (6, .one (.own 0 1 q.length)), (7, vP (slc eI (digs (top a i % n)))), (8, vI ((i : Int) - 1))], [(0, (.pu 3 (q.flatMap eI), false))], 1⟩)
    (fun i q => i ≤ a.length ∧ q.length = a.length - i ∧ Dig q.reverse ∧ val q.reverse = ((top a i / n : Nat) : Int)) (fun i _ => i) a.length []
    ⟨Nat.le_refl _, by simp, Dig.nil, by rw [top_len]; simp [val]⟩ (h0 := le_ghost1 0 3 (hle := le_auto (he := ⟨⟨_, rfl, avLe_refl _⟩, ⟨_, rfl, avLe_refl _⟩, ⟨_, rfl, avLe_nilO⟩, ⟨_, rfl, ?_⟩, ⟨_, rfl, avLe_refl _⟩, trivial⟩))) (hr := fun i q K ⟨hi, hq, hd, hv⟩ hK => ?_)
  · rw [top_len, Nat.zero_mod, digs_zero]; exact avLe_nil
  refine walk (hQ := ?_)
  refine W_if (ht := fun h1 => ?_) (hf := fun h1 => ?_)
  · obtain ⟨j, rfl⟩ : ∃ j, i = j + 1 := ⟨i - 1, by omega⟩
    have e0 : ((j + 1 : Nat) : Int) - 1 = (j : Int) := by omega
    rw [e0]
    have hx : 0 ≤ a.getD j 0 ∧ a.getD j 0 < 10000 := dig_rd ha j
    obtain ⟨d, hdx⟩ := Int.eq_ofNat_of_zero_le hx.1
    have hd4 : d < 10000 := by omega
    have ht := top_step ha (i := j) (by omega)
    have hrd : rd a j = (d : Int) := hdx
    rw [hrd, Int.toNat_natCast] at ht
    obtain ⟨s1, s2⟩ := div_step n (top a (j + 1)) d hn
    have s3 := div_small n (top a (j + 1)) d hn hd4
    rw [← ht] at s1 s2
    have hRl : (digs (top a (j + 1) % n)).length ≤ 100000 := Nat.le_trans (len_of_lt (Nat.mod_le _ _)) (Nat.le_trans (top_digs_len ha _) lm)
    refine walk (hQ := ?_)
    have eR : tr ([a.getD j 0] ++ digs (top a (j + 1) % n)) = digs (d + 10000 * (top a (j + 1) % n)) := by rw [hdx]; exact digs_app d _ hd4
    have hR1 : (digs (d + 10000 * (top a (j + 1) % n))).length ≤ 100001 := by
      rw [← eR]
      have := len_tr ([a.getD j 0] ++ digs (top a (j + 1) % n))
      rw [List.length_append, List.length_singleton] at this
      omega
    refine R_callF (s_trimmed _) (hK := ?_)
    rw [eR]
    generalize hRR : d + 10000 * (top a (j + 1) % n) = T at *
    refine walk (hQ := ?_)
    refine Lp.intro2 (fun (lo hi : Nat) => ⟨[(0, vP (slc eI a)), (1, vP (slc eI (digs n))), (6, .one (.own 0 1 q.length)), (7, vP (slc eI (digs T))), (8, vI j), (9, vI lo), (10, vI hi)], [(0, (.pu 3 (q.flatMap eI), false))], 1⟩)
      (fun lo hi => lo ≤ hi ∧ hi ≤ 9999 ∧ n * lo ≤ T ∧ T < n * (hi + 1)) (fun lo hi => hi - lo) 0 9999 ⟨by omega, by omega, by omega, ?_⟩ (h0 := le_auto) (hr := fun lo hi K' ⟨g1, g2, g3, g4⟩ hK' => ?_)
    · have := (Nat.div_lt_iff_lt_mul hn).1 s3
      rw [Nat.mul_comm]
      exact this
    refine walk (hQ := ?_)
    refine W_if (ht := fun h2 => ?_) (hf := fun h2 => ?_)
    · have eM : ((lo : Int) + hi + 1) / 2 = (((lo + hi + 1) / 2 : Nat) : Int) := by omega
      have hM1 : (lo + hi + 1) / 2 < 10000 := by omega
      refine walk (hQ := ?_)
      rw [eM]
      generalize hM : (lo + hi + 1) / 2 = M at *
      refine R_callF (s_mul1 n M hM1 (by omega)) (hK := ?_)
      refine walk (hQ := ?_)
      refine R_call (s_compare _ _) (hK := ?_)
      refine walk (hQ := ?_)
      rw [cmp_digs]
      refine W_if (ht := fun h3 => ?_) (hf := fun h3 => ?_)
      · have hc := (sgn_le _ _).1 h3
        refine walk (hQ := ?_)
        exact hK' _ M hi ⟨by omega, g2, hc, g4⟩ (by omega) le_auto
      · have hc : ¬ n * M ≤ T := fun h => h3 ((sgn_le _ _).2 h)
        refine walk (hQ := ?_)
        exact hK' _ lo (M - 1) ⟨by omega, by omega, g3, by rw [show M - 1 + 1 = M by omega]; omega⟩ (by omega) le_auto
    · obtain rfl : lo = hi := by omega
      have hdone : lo = T / n := by
        symm
        apply Nat.div_eq_of_lt_le
        · rw [Nat.mul_comm]; exact g3
        · rw [Nat.mul_comm]; exact g4
      have hle : n * lo ≤ T := by rw [hdone]; exact Nat.mul_div_le T n
      have hm : T - n * lo = T % n := by
        have := Nat.div_add_mod T n
        rw [hdone]
        omega
      have hP : j ≤ a.length ∧ (q ++ [(lo : Int)]).length = a.length - j ∧ Dig (q ++ [(lo : Int)]).reverse ∧ val (q ++ [(lo : Int)]).reverse = ((top a j / n : Nat) : Int) := by
        refine ⟨by omega, by rw [List.length_append, List.length_singleton]; omega, ?_, ?_⟩
        · rw [List.reverse_append, List.reverse_singleton]; exact (dig1 lo (by omega)).join hd
        · rw [List.reverse_append, List.reverse_singleton, List.singleton_append, val, hv, s1, hdone]; omega
      have hqa : q.length ≤ 100000 := by omega
      refine walk (hQ := ?_)
      refine W_if (ht := fun h3 => ?_) (hf := fun h3 => ?_)
      · refine walk (hQ := ?_)
        refine R_callF (s_mul1 n lo (by omega) (by omega)) (hK := ?_)
        refine walk (hQ := ?_)
        refine R_call (s_sub T (n * lo) hle (by omega)) (hK := ?_)
        rw [hm, ← s2]
        refine walk (hQ := ?_)
        exact hK _ j _ hP (by omega) le_auto
      · have hz : T = top a j % n := by
          rw [s2]
          have := Nat.div_add_mod T n
          obtain rfl : lo = 0 := by omega
          rw [← hdone] at this
          omega
        rw [hz]
        refine walk (hQ := ?_)
        exact hK _ j _ hP (by omega) le_auto
  · obtain rfl : i = 0 := by omega
    refine walk (hQ := ?_)
    refine R_callM (o_reverseI q (by omega)) (hK := ?_)
    refine walk (hQ := ?_)
    refine R_callF (s_trimmed q.reverse) (hK := ?_)
    refine walk (hQ := ?_)
    refine hR _ (ret2 (hp := ?_))
    rw [tr_digs hd, hv, top_zero]; rfl
end Go.VS.YtlogclmmeikbpaaDoor


namespace Go.VS.YtlogclmmeikbpaaDoor
open Go Go.VL Go.VN Go.RowKit Go.Proofs
set_option maxRecDepth 100000
set_option linter.unusedVariables false

/-- The test of one digit. -/
theorem s_bad (d : Int) : Spc X 54 [.one (.int .i64 d)] (.one (.bool (decide (d < 0) || decide (10000 ≤ d)))) := by
  refine Spc.start Tryd.func54 rfl (h := fun hs R hR => ?_)
  unfold Tryd.f54
  simp only [entryE, PA.av]
  refine walk (hQ := ?_)
  refine R_g_if (h1 := fun h0 => ?_) (h2 := fun h0 => ?_)
  · simp only [Bool.false_eq_true, if_false] at h0
    refine walk (hQ := ?_)
    refine hR _ (ret1 (hp := ?_))
    simp [h0]
  · simp only [Bool.false_eq_true, if_false] at h0
    refine walk (hQ := ?_)
    refine hR _ (ret1 (hp := ?_))
    simp [h0]
def idxOf (p : Int → Bool) (l : List Int) : Int := if l.any p = true then (l.findIdx p : Int) else -1
theorem idx_hit {p : Int → Bool} {l : List Int} {i : Nat} (hi : i < l.length) (h0 : ∀ j, j < i → p (l.getD j 0) = false) (h1 : p (l.getD i 0) = true) : idxOf p l = i := by
  have e : ∀ j (hj : j < l.length), l.getD j 0 = l[j] := fun j hj => by rw [List.getD_eq_getElem?_getD, List.getElem?_eq_getElem hj]; rfl
  have ha : l.any p = true := List.any_eq_true.2 ⟨l[i], List.getElem_mem hi, by rw [← e i hi]; exact h1⟩
  unfold idxOf
  rw [if_pos ha]
  have := (List.findIdx_eq (p := p) hi).2 ⟨by rw [← e i hi]; exact h1, fun j hj => by rw [← e j (by omega)]; exact h0 j hj⟩
  rw [this]
theorem idx_miss {p : Int → Bool} {l : List Int} (h0 : ∀ j, j < l.length → p (l.getD j 0) = false) : idxOf p l = -1 ∧ l.any p = false := by
  have ha : l.any p = false := by
    rw [List.any_eq_false]
    intro x hx
    obtain ⟨j, hj, rfl⟩ := List.getElem_of_mem hx
    have := h0 j hj
    rw [List.getD_eq_getElem?_getD, List.getElem?_eq_getElem hj] at this
    simpa using this
  unfold idxOf
  rw [ha]
  exact ⟨rfl, rfl⟩
theorem idx_nonneg (p : Int → Bool) (l : List Int) : decide (0 ≤ idxOf p l) = l.any p := by
  unfold idxOf
  by_cases h : l.any p = true
  · rw [if_pos h, h, decide_eq_true_eq]; omega
  · have h' : l.any p = false := by simpa using h
    rw [if_neg h, h']; rfl
theorem s_indexI (f : FuncId) (p : Int → Bool) (hp : ∀ d, Spc X f [.one (.int .i64 d)] (.one (.bool (p d)))) (l : List Int) : Spc X 78 [.one (slc eI l), .one (.clo f [])] (.one (.int .i64 (idxOf p l))) := by
  refine Spc.start Tryd.func78 rfl (h := fun hs R hR => ?_)
  have hlen := (sane_I hs.1).1
  unfold Tryd.f78
  simp only [entryE, PA.av]
  refine walk (hQ := ?_)
  refine Lp.intro (fun (i : Nat) => ⟨[(0, vP (slc eI l)), (1, vP (.clo f [])), (7, vI l.length), (8, vI i)], [], 0⟩) (fun i => i ≤ l.length ∧ ∀ j, j < i → p (l.getD j 0) = false) (fun i => l.length - i) 0 ⟨Nat.zero_le _, fun j hj => by omega⟩ (h0 := le_auto) (hr := fun i K ⟨hi, hb⟩ hK => ?_)
  refine walk (hQ := ?_)
  refine W_if (ht := fun h1 => ?_) (hf := fun h1 => ?_)
  · refine walk (hQ := ?_)
    refine R_call (hp _) (hK := ?_)
    refine walk (hQ := ?_)
    refine W_ifb (ht := fun h2 => ?_) (hf := fun h2 => ?_)
    · refine walk (hQ := ?_)
      exact hR _ (ret1 (hp := by rw [idx_hit (by omega) hb h2]))
    · refine walk (hQ := ?_)
      refine hK _ (i + 1) ⟨by omega, fun j hj => ?_⟩ (by omega) le_auto
      rcases Nat.lt_or_ge j i with h | h
      · exact hb j h
      · obtain rfl : j = i := by omega
        exact h2
  · refine walk (hQ := ?_)
    exact hR _ (ret1 (hp := by rw [(idx_miss fun j hj => hb j (by omega)).1]))
theorem s_containsI (f : FuncId) (p : Int → Bool) (hp : ∀ d, Spc X f [.one (.int .i64 d)] (.one (.bool (p d)))) (l : List Int) : Spc X 53 [.one (slc eI l), .one (.clo f [])] (.one (.bool (l.any p))) := by
  refine Spc.start Tryd.func53 rfl (h := fun hs R hR => ?_)
  unfold Tryd.f53
  simp only [entryE, PA.av]
  refine walk (hQ := ?_)
  refine R_call (s_indexI f p hp l) (hK := ?_)
  refine walk (hQ := ?_)
  refine hR _ (ret1 (hp := ?_))
  rw [idx_nonneg]
theorem any_bad (l : List Int) : (!l.any fun d => decide (d < 0) || decide (10000 ≤ d)) = l.all fun d => decide (0 ≤ d) && decide (d < 10000) := by
  induction l with
  | nil => rfl
  | cons d l ih =>
    rw [List.any_cons, List.all_cons, ← ih, Bool.not_or]
    congr 1
    by_cases h1 : d < 0 <;> by_cases h2 : 10000 ≤ d <;> simp [h1, h2] <;> omega
theorem s_Valid (l : List Int) : Spc X 24 [nt l] (.one (.bool (validB l))) := by
  refine Spc.start Tryd.func24 rfl (h := fun hs R hR => ?_)
  unfold Tryd.f24
  simp only [entryE, PA.av, List.map_cons, List.map_nil]
  refine walk (hQ := ?_)
  refine R_g_if (h1 := fun h0 => ?_) (h2 := fun h0 => ?_)
  · simp only [Bool.false_eq_true, if_false] at h0
    refine walk (hQ := ?_)
    refine R_g_if (h1 := fun h1 => ?_) (h2 := fun h1 => ?_)
    · simp only [if_true] at h1
      refine walk (hQ := ?_)
      have ej : ((l.length : Int) - 1).toNat = l.length - 1 := by omega
      rw [ej]
      have hg : l.getLast? = some (l.getD (l.length - 1) 0) := by
        rw [List.getLast?_eq_getElem?, List.getD_eq_getElem?_getD, List.getElem?_eq_getElem (by omega)]; rfl
      refine W_if (ht := fun h2 => ?_) (hf := fun h2 => ?_)
      · refine walk (hQ := ?_)
        refine hR _ (ret1 (hp := ?_))
        unfold validB
        rw [hg, h2]; simp
      · refine walk (hQ := ?_)
        refine R_call (s_containsI 54 _ s_bad l) (hK := ?_)
        refine walk (hQ := ?_)
        refine hR _ (ret1 (hp := ?_))
        rw [any_bad]
        unfold validB
        rw [decide_eq_true (by omega), hg]
        have h3 : (some (l.getD (l.length - 1) 0) == some 0) = false := by simpa using h2
        rw [h3]; rfl
    · simp only [if_true] at h1
      refine walk (hQ := ?_)
      refine R_call (s_containsI 54 _ s_bad l) (hK := ?_)
      refine walk (hQ := ?_)
      refine hR _ (ret1 (hp := ?_))
      have h2 : l = [] := List.eq_nil_of_length_eq_zero (by omega)
      subst h2
      rfl
  · simp only [Bool.false_eq_true, if_false] at h0
    refine walk (hQ := ?_)
    refine hR _ (ret1 (hp := ?_))
    unfold validB
    rw [decide_eq_false (by omega)]; rfl
end Go.VS.YtlogclmmeikbpaaDoor


namespace Go.VS.YtlogclmmeikbpaaDoor
open Go Go.VL Go.VN Go.RowKit Go.Proofs
set_option maxRecDepth 100000
set_option linter.unusedVariables false

/-- A number and an error, handed back. -/
abbrev nr (r : List Int × Int) : PA := .tup [(true, [slc eI r.1]), (false, [.int .i64 r.2])]
theorem valid_digs {l : List Int} (h : validB l = true) : l = digs (val l).toNat ∧ l.length ≤ 200 ∧ Dig l := by
  obtain ⟨h1, h2, h3⟩ := validB_parts h
  exact ⟨norm_digs h2 h3, h1, h2⟩
theorem s_fitsD (n : Nat) : Spc X 41 [.one (slc eI (digs n))] (nr (fit n)) := by
  have h := s_fits (digs n)
  unfold fit
  by_cases h0 : (digs n).length > 200
  · rw [if_pos h0] at h ⊢; exact h
  · rw [if_neg h0] at h ⊢; rw [tr_digs_id] at h; exact h
theorem s_Mul (a b : List Int) : Spc X 14 [nt a, nt b] (nr (mulR a b)) := by
  refine Spc.start Tryd.func14 rfl (h := fun hs R hR => ?_)
  unfold Tryd.f14
  simp only [entryE, PA.av, List.map_cons, List.map_nil]
  refine walk (hQ := ?_)
  have va := s_Valid a
  have vb := s_Valid b
  unfold mulR at hR
  cases ha : validB a with
  | false =>
    rw [ha] at va
    rw [ha, if_neg (by simp)] at hR
    refine R_call va (hK := ?_)
    refine walk (hQ := ?_)
    exact hR _ (ret2 (hp := rfl))
  | true =>
    rw [ha] at va
    refine R_call va (hK := ?_)
    refine walk (hQ := ?_)
    cases hb : validB b with
    | false =>
      rw [hb] at vb
      rw [hb, if_neg (by simp)] at hR
      refine R_call vb (hK := ?_)
      refine walk (hQ := ?_)
      exact hR _ (ret2 (hp := rfl))
    | true =>
      rw [hb] at vb
      rw [ha, hb, if_pos (by simp)] at hR
      obtain ⟨_, la, da⟩ := valid_digs ha
      obtain ⟨_, lb, db⟩ := valid_digs hb
      refine R_call vb (hK := ?_)
      refine walk (hQ := ?_)
      refine R_call (s_mul a b da db (by omega) (by omega)) (hK := ?_)
      refine walk (hQ := ?_)
      refine R_call (s_fitsD _) (hK := ?_)
      refine walk (hQ := ?_)
      exact hR _ (ret2 (hp := rfl))
def addR (a b : List Int) : List Int × Int := if validB a = true ∧ validB b = true then fit ((val a).toNat + (val b).toNat) else ([], 1)
def subR (a b : List Int) : List Int × Int := if validB a = true ∧ validB b = true then (if (val a).toNat < (val b).toNat then ([], 6) else (digs ((val a).toNat - (val b).toNat), 0)) else ([], 1)
theorem s_Add (a b : List Int) : Spc X 35 [nt a, nt b] (nr (addR a b)) := by
  refine Spc.start Tryd.func35 rfl (h := fun hs R hR => ?_)
  unfold Tryd.f35
  simp only [entryE, PA.av, List.map_cons, List.map_nil]
  refine walk (hQ := ?_)
  have va := s_Valid a
  have vb := s_Valid b
  unfold addR at hR
  cases ha : validB a with
  | false =>
    rw [ha] at va
    rw [ha, if_neg (by simp)] at hR
    refine R_call va (hK := ?_)
    refine walk (hQ := ?_)
    exact hR _ (ret2 (hp := rfl))
  | true =>
    rw [ha] at va
    refine R_call va (hK := ?_)
    refine walk (hQ := ?_)
    cases hb : validB b with
    | false =>
      rw [hb] at vb
      rw [hb, if_neg (by simp)] at hR
      refine R_call vb (hK := ?_)
      refine walk (hQ := ?_)
      exact hR _ (ret2 (hp := rfl))
    | true =>
      rw [hb] at vb
      rw [ha, hb, if_pos (by simp)] at hR
      obtain ⟨ea, la, da⟩ := valid_digs ha
      obtain ⟨eb, lb, db⟩ := valid_digs hb
      refine R_call vb (hK := ?_)
      refine walk (hQ := ?_)
      generalize hm : (val a).toNat = m at *
      generalize hn : (val b).toNat = n at *
      subst ea eb
      refine R_call (s_add m n (by omega) (by omega)) (hK := ?_)
      refine walk (hQ := ?_)
      refine R_call (s_fitsD _) (hK := ?_)
      refine walk (hQ := ?_)
      exact hR _ (ret2 (hp := rfl))
theorem s_Sub (a b : List Int) : Spc X 38 [nt a, nt b] (nr (subR a b)) := by
  refine Spc.start Tryd.func38 rfl (h := fun hs R hR => ?_)
  unfold Tryd.f38
  simp only [entryE, PA.av, List.map_cons, List.map_nil]
  refine walk (hQ := ?_)
  have va := s_Valid a
  have vb := s_Valid b
  unfold subR at hR
  cases ha : validB a with
  | false =>
    rw [ha] at va
    rw [ha, if_neg (by simp)] at hR
    refine R_call va (hK := ?_)
    refine walk (hQ := ?_)
    exact hR _ (ret2 (hp := rfl))
  | true =>
    rw [ha] at va
    refine R_call va (hK := ?_)
    refine walk (hQ := ?_)
    cases hb : validB b with
    | false =>
      rw [hb] at vb
      rw [hb, if_neg (by simp)] at hR
      refine R_call vb (hK := ?_)
      refine walk (hQ := ?_)
      exact hR _ (ret2 (hp := rfl))
    | true =>
      rw [hb] at vb
      rw [ha, hb, if_pos (by simp)] at hR
      obtain ⟨ea, la, da⟩ := valid_digs ha
      obtain ⟨eb, lb, db⟩ := valid_digs hb
      refine R_call vb (hK := ?_)
      refine walk (hQ := ?_)
      generalize hm : (val a).toNat = m at *
      generalize hn : (val b).toNat = n at *
      subst ea eb
      refine R_call (s_Cmp _ _) (hK := ?_)
      rw [cmp_digs]
      refine walk (hQ := ?_)
      have hlt : sgn (m : Int) n < 0 ↔ m < n := by
        unfold sgn
        by_cases h1 : (m : Int) < n
        · rw [if_pos h1]; omega
        · rw [if_neg h1]; split <;> omega
      refine W_if (ht := fun h0 => ?_) (hf := fun h0 => ?_)
      · rw [if_pos (hlt.1 h0)] at hR
        refine walk (hQ := ?_)
        exact hR _ (ret2 (hp := rfl))
      · have h1 : ¬ m < n := fun h => h0 (hlt.2 h)
        rw [if_neg h1] at hR
        refine walk (hQ := ?_)
        refine R_call (s_sub m n (by omega) (by omega)) (hK := ?_)
        refine walk (hQ := ?_)
        refine R_call (s_of _) (hK := ?_)
        rw [tr_digs_id]
        refine walk (hQ := ?_)
        exact hR _ (ret2 (hp := rfl))
/-- Two numbers and an error, handed back. -/
abbrev nr2 (r : List Int × List Int × Int) : PA := .tup [(true, [slc eI r.1]), (true, [slc eI r.2.1]), (false, [.int .i64 r.2.2])]
theorem s_Div (a b : List Int) : Spc X 32 [nt a, nt b] (nr2 (divR a b)) := by
  refine Spc.start Tryd.func32 rfl (h := fun hs R hR => ?_)
  unfold Tryd.f32
  simp only [entryE, PA.av, List.map_cons, List.map_nil]
  refine walk (hQ := ?_)
  have va := s_Valid a
  have vb := s_Valid b
  unfold divR at hR
  cases ha : validB a with
  | false =>
    rw [ha] at va
    rw [ha, if_neg (by simp)] at hR
    refine R_call va (hK := ?_)
    refine walk (hQ := ?_)
    exact hR _ (ret3 (hp := rfl))
  | true =>
    rw [ha] at va
    refine R_call va (hK := ?_)
    refine walk (hQ := ?_)
    cases hb : validB b with
    | false =>
      rw [hb] at vb
      rw [hb, if_neg (by simp)] at hR
      refine R_call vb (hK := ?_)
      refine walk (hQ := ?_)
      exact hR _ (ret3 (hp := rfl))
    | true =>
      rw [hb] at vb
      rw [ha, hb, if_pos (by simp)] at hR
      obtain ⟨ea, la, da⟩ := valid_digs ha
      obtain ⟨eb, lb, db⟩ := valid_digs hb
      refine R_call vb (hK := ?_)
      refine walk (hQ := ?_)
      generalize hm : (val a).toNat = m at *
      generalize hn : (val b).toNat = n at *
      subst ea eb
      have hz := len_zero n
      refine W_if (ht := fun h0 => ?_) (hf := fun h0 => ?_)
      · rw [if_pos (hz.1 h0)] at hR
        refine walk (hQ := ?_)
        exact hR _ (ret3 (hp := rfl))
      · have h1 : ¬ n = 0 := fun h => h0 (hz.2 h)
        rw [if_neg h1] at hR
        refine walk (hQ := ?_)
        refine R_call (s_divide m n (by omega) (by omega) (by omega)) (hK := ?_)
        refine walk (hQ := ?_)
        refine R_call (s_of _) (hK := ?_)
        rw [tr_digs_id]
        refine walk (hQ := ?_)
        refine R_call (s_of _) (hK := ?_)
        rw [tr_digs_id]
        refine walk (hQ := ?_)
        exact hR _ (ret3 (hp := rfl))
theorem s_Gcd (a b : List Int) : Spc X 29 [nt a, nt b] (nr (gcdR a b)) := by
  refine Spc.start Tryd.func29 rfl (h := fun hs R hR => ?_)
  unfold Tryd.f29
  simp only [entryE, PA.av, List.map_cons, List.map_nil]
  refine walk (hQ := ?_)
  have va := s_Valid a
  have vb := s_Valid b
  unfold gcdR at hR
  cases ha : validB a with
  | false =>
    rw [ha] at va
    rw [ha, if_neg (by simp)] at hR
    refine R_call va (hK := ?_)
    refine walk (hQ := ?_)
    exact hR _ (ret2 (hp := rfl))
  | true =>
    rw [ha] at va
    refine R_call va (hK := ?_)
    refine walk (hQ := ?_)
    cases hb : validB b with
    | false =>
      rw [hb] at vb
      rw [hb, if_neg (by simp)] at hR
      refine R_call vb (hK := ?_)
      refine walk (hQ := ?_)
      exact hR _ (ret2 (hp := rfl))
    | true =>
      rw [hb] at vb
      rw [ha, hb, if_pos (by simp)] at hR
      obtain ⟨ea, la, da⟩ := valid_digs ha
      obtain ⟨eb, lb, db⟩ := valid_digs hb
      refine R_call vb (hK := ?_)
      refine walk (hQ := ?_)
      generalize hm : (val a).toNat = m at *
      generalize hn : (val b).toNat = n at *
      subst ea eb
      refine R_call (s_cloneI (digs m) (by omega)) (hK := ?_)
      refine walk (hQ := ?_)
      refine R_call (s_cloneI (digs n) (by omega)) (hK := ?_)
      refine walk (hQ := ?_)
      refine Lp.intro2 (fun (p q : Nat) => ⟨[(4, .one (.ptr 2 0)), (6, vP (slc eI (digs p))), (7, vP (slc eI (digs q)))], [(2, (.mx [.pv .nil], false))], 3⟩)
        (fun p q => (digs p).length ≤ 200 ∧ (digs q).length ≤ 200 ∧ Nat.gcd p q = Nat.gcd m n) (fun _ q => q) m n ⟨la, lb, rfl⟩ (h0 := le_auto) (hr := fun p q K ⟨lp, lq, hg⟩ hK => ?_)
      have hz := len_zero q
      refine walk (hQ := ?_)
      refine W_if (ht := fun h0 => ?_) (hf := fun h0 => ?_)
      · have h1 : 0 < q := by
          rcases Nat.eq_zero_or_pos q with h | h
          · have := hz.2 h; omega
          · exact h
        refine walk (hQ := ?_)
        refine R_call (s_divide p q h1 (by omega) (by omega)) (hK := ?_)
        refine walk (hQ := ?_)
        refine hK _ q (p % q) ⟨lq, Nat.le_trans (len_of_lt (Nat.le_of_lt (Nat.mod_lt p h1))) lq, ?_⟩ (Nat.mod_lt p h1) le_auto
        rw [← hg, Nat.gcd_comm p q, Nat.gcd_rec q p, Nat.gcd_comm]
      · have h1 : q = 0 := hz.1 (by omega)
        subst h1
        rw [Nat.gcd_zero_right] at hg
        rw [← hg] at hR
        refine walk (hQ := ?_)
        refine R_call (s_of _) (hK := ?_)
        rw [tr_digs_id]
        refine walk (hQ := ?_)
        exact hR _ (ret2 (hp := rfl))
end Go.VS.YtlogclmmeikbpaaDoor


set_option linter.unusedVariables false
namespace Go.Proofs
open Go.Shelf
def Tryd.lays160_ren : Go.Shelf.Ren := ⟨fun | 160 => 49 | 232 => 70 | 231 => 69 | 227 => 71 | 234 => 73 | 233 => 72 | 236 => 75 | 235 => 74 | 228 => 82 | 271 => 85 | 151 => 84 | 197 => 83 | 120 => 97 | 152 => 96 | 260 => 95 | 137 => 106 | 119 => 107 | 224 => 108 | 225 => 109 | 217 => 114 | 266 => 115 | n => n, fun | 9 => 9 | 4 => 4 | 3 => 3 | 5 => 5 | 117 => 79 | 116 => 78 | 0 => 0 | 124 => 82 | 21 => 21 | 105 => 90 | 46 => 108 | 119 => 119 | 139 => 122 | 138 => 121 | n => n, fun | 3 => 3 | 4 => 4 | n => n⟩
theorem Tryd.lays160 : Go.Proofs.Lays.n160 Tryd.prog Tryd.lays160_ren := {
  mixed := by kernel_rfl
  f119 := Tryd.func107.trans (congrArg some (by kernel_rfl))
  f120 := Tryd.func97.trans (congrArg some (by kernel_rfl))
  f137 := Tryd.func106.trans (congrArg some (by kernel_rfl))
  f151 := Tryd.func84.trans (congrArg some (by kernel_rfl))
  f152 := Tryd.func96.trans (congrArg some (by kernel_rfl))
  f160 := Tryd.func49.trans (congrArg some (by kernel_rfl))
  f197 := Tryd.func83.trans (congrArg some (by kernel_rfl))
  f217 := Tryd.func114.trans (congrArg some (by kernel_rfl))
  f224 := Tryd.func108.trans (congrArg some (by kernel_rfl))
  f225 := Tryd.func109.trans (congrArg some (by kernel_rfl))
  f227 := Tryd.func71.trans (congrArg some (by kernel_rfl))
  f228 := Tryd.func82.trans (congrArg some (by kernel_rfl))
  f231 := Tryd.func69.trans (congrArg some (by kernel_rfl))
  f232 := Tryd.func70.trans (congrArg some (by kernel_rfl))
  f233 := Tryd.func72.trans (congrArg some (by kernel_rfl))
  f234 := Tryd.func73.trans (congrArg some (by kernel_rfl))
  f235 := Tryd.func74.trans (congrArg some (by kernel_rfl))
  f236 := Tryd.func75.trans (congrArg some (by kernel_rfl))
  f260 := Tryd.func95.trans (congrArg some (by kernel_rfl))
  f266 := Tryd.func115.trans (congrArg some (by kernel_rfl))
  f271 := Tryd.func85.trans (congrArg some (by kernel_rfl))
  t0 := Tryd.underlying0
  a0 := Tryd.isAgg0
  z0 := Tryd.sizeOf0
  v0 := Tryd.zeroValue0
  t3 := Tryd.underlying3
  a3 := Tryd.isAgg3
  z3 := Tryd.sizeOf3
  v3 := Tryd.zeroValue3
  t4 := Tryd.underlying4
  a4 := Tryd.isAgg4
  z4 := Tryd.sizeOf4
  v4 := Tryd.zeroValue4
  t5 := Tryd.underlying5
  a5 := Tryd.isAgg5
  z5 := Tryd.sizeOf5
  v5 := Tryd.zeroValue5
  t9 := Tryd.underlying9
  a9 := Tryd.isAgg9
  z9 := Tryd.sizeOf9
  v9 := Tryd.zeroValue9
  t21 := Tryd.underlying21
  a21 := Tryd.isAgg21
  z21 := Tryd.sizeOf21
  v21 := Tryd.zeroValue21
  t46 := Tryd.underlying108
  a46 := Tryd.isAgg108
  z46 := Tryd.sizeOf108
  v46 := Tryd.zeroValue108
  t105 := Tryd.underlying90
  a105 := Tryd.isAgg90
  z105 := Tryd.sizeOf90
  v105 := Tryd.zeroValue90
  t116 := Tryd.underlying78
  a116 := Tryd.isAgg78
  z116 := Tryd.sizeOf78
  t117 := Tryd.underlying79
  a117 := Tryd.isAgg79
  z117 := Tryd.sizeOf79
  v117 := Tryd.zeroValue79
  t119 := Tryd.underlying119
  a119 := Tryd.isAgg119
  z119 := Tryd.sizeOf119
  t124 := Tryd.underlying82
  a124 := Tryd.isAgg82
  z124 := Tryd.sizeOf82
  v124 := Tryd.zeroValue82
  t138 := Tryd.underlying121
  a138 := Tryd.isAgg121
  z138 := Tryd.sizeOf121
  v138 := Tryd.zeroValue121
  t139 := Tryd.underlying122
  a139 := Tryd.isAgg122
  z139 := Tryd.sizeOf122
  v139 := Tryd.zeroValue122
  g3 := by kernel_rfl
  g4 := by kernel_rfl }
open Go.RowKit in
/-- strings.Trim: "Trim returns a slice of the string s with all leading and trailing Unicode code points contained in cutset removed.": AT A cutset OF ONE ASCII BYTE. THE WORLD BEHIND IT: as it was, or (where s is not empty) with ONE DRAW MORE off the tape: the statement 'return trimLeftByte(trimRightByte(s, c), c)' draws its order of evaluation. (LAID: no walk: one application.) -/
theorem Tryd.strings_Trim_one (s : ByteArray) (c : UInt8) (hc : c.toNat < 128) (w : World) (hs : s.size ≤ 9223372036854775807) :
    Calls Tryd.prog 49 #[.string s, .string ⟨#[c]⟩] w fun e w' => e = .returned (.string ⟨(Lib.trimB s.data.toList c).toArray⟩) ∧ (w' = w ∨ w' = w.drew) := Any.strings_Trim_one Tryd.lays160 s c hc w hs
def Tryd.laysM171_ren : Go.Shelf.Ren := ⟨fun | 171 => 47 | 243 => 68 | 246 => 81 | 283 => 91 | 284 => 92 | 285 => 93 | 286 => 94 | 129 => 102 | 317 => 101 | 318 => 103 | 319 => 104 | 320 => 105 | 337 => 112 | 338 => 113 | n => n, fun | 3 => 3 | 9 => 9 | 2 => 2 | 4 => 4 | 171 => 99 | 0 => 0 | 53 => 100 | 37 => 56 | 5 => 5 | 173 => 103 | 212 => 115 | 51 => 116 | 20 => 20 | 213 => 117 | 46 => 108 | 232 => 131 | 233 => 132 | n => n, fun | 17 => 2 | 18 => 6 | 19 => 7 | n => n⟩
theorem Tryd.laysM171 : Go.Proofs.LaysM.n171 Tryd.prog Tryd.laysM171_ren := {
  mixed := by kernel_rfl
  f129 := Tryd.func102.trans (congrArg some (by kernel_rfl))
  f171 := Tryd.func47.trans (congrArg some (by kernel_rfl))
  f243 := Tryd.func68.trans (congrArg some (by kernel_rfl))
  f246 := Tryd.func81.trans (congrArg some (by kernel_rfl))
  f283 := Tryd.func91.trans (congrArg some (by kernel_rfl))
  f284 := Tryd.func92.trans (congrArg some (by kernel_rfl))
  f285 := Tryd.func93.trans (congrArg some (by kernel_rfl))
  f286 := Tryd.func94.trans (congrArg some (by kernel_rfl))
  f317 := Tryd.func101.trans (congrArg some (by kernel_rfl))
  f318 := Tryd.func103.trans (congrArg some (by kernel_rfl))
  f319 := Tryd.func104.trans (congrArg some (by kernel_rfl))
  f320 := Tryd.func105.trans (congrArg some (by kernel_rfl))
  f337 := Tryd.func112.trans (congrArg some (by kernel_rfl))
  f338 := Tryd.func113.trans (congrArg some (by kernel_rfl))
  t0 := Tryd.underlying0
  a0 := Tryd.isAgg0
  z0 := Tryd.sizeOf0
  v0 := Tryd.zeroValue0
  t2 := Tryd.underlying2
  a2 := Tryd.isAgg2
  z2 := Tryd.sizeOf2
  v2 := Tryd.zeroValue2
  t3 := Tryd.underlying3
  a3 := Tryd.isAgg3
  z3 := Tryd.sizeOf3
  v3 := Tryd.zeroValue3
  t4 := Tryd.underlying4
  a4 := Tryd.isAgg4
  z4 := Tryd.sizeOf4
  v4 := Tryd.zeroValue4
  t5 := Tryd.underlying5
  a5 := Tryd.isAgg5
  z5 := Tryd.sizeOf5
  v5 := Tryd.zeroValue5
  t9 := Tryd.underlying9
  a9 := Tryd.isAgg9
  z9 := Tryd.sizeOf9
  v9 := Tryd.zeroValue9
  t20 := Tryd.underlying20
  a20 := Tryd.isAgg20
  z20 := Tryd.sizeOf20
  v20 := Tryd.zeroValue20
  t37 := Tryd.underlying56
  a37 := Tryd.isAgg56
  z37 := Tryd.sizeOf56
  v37 := Tryd.zeroValue56
  t46 := Tryd.underlying108
  a46 := Tryd.isAgg108
  z46 := Tryd.sizeOf108
  v46 := Tryd.zeroValue108
  t51 := Tryd.underlying116
  a51 := Tryd.isAgg116
  z51 := Tryd.sizeOf116
  v51 := Tryd.zeroValue116
  t53 := Tryd.underlying100
  a53 := Tryd.isAgg100
  z53 := Tryd.sizeOf100
  v53 := Tryd.zeroValue100
  t171 := Tryd.underlying99
  a171 := Tryd.isAgg99
  z171 := Tryd.sizeOf99
  v171 := Tryd.zeroValue99
  t173 := Tryd.underlying103
  a173 := Tryd.isAgg103
  z173 := Tryd.sizeOf103
  v173 := Tryd.zeroValue103
  t212 := Tryd.underlying115
  a212 := Tryd.isAgg115
  z212 := Tryd.sizeOf115
  v212 := Tryd.zeroValue115
  t213 := Tryd.underlying117
  a213 := Tryd.isAgg117
  z213 := Tryd.sizeOf117
  t232 := Tryd.underlying131
  a232 := Tryd.isAgg131
  z232 := Tryd.sizeOf131
  v232 := Tryd.zeroValue131
  t233 := Tryd.underlying132
  a233 := Tryd.isAgg132
  z233 := Tryd.sizeOf132
  v233 := Tryd.zeroValue132
  g17 := by kernel_rfl
  g18 := by kernel_rfl
  g19 := by kernel_rfl
  i0 := by kernel_rfl
  i2 := by kernel_rfl
  i3 := by kernel_rfl
  i4 := by kernel_rfl
  i5 := by kernel_rfl
  i9 := by kernel_rfl
  i20 := by kernel_rfl
  i37 := by kernel_rfl
  i46 := by kernel_rfl
  i51 := by kernel_rfl
  i53 := by kernel_rfl
  i171 := by kernel_rfl
  i173 := by kernel_rfl
  i212 := by kernel_rfl
  i232 := by kernel_rfl
  i233 := by kernel_rfl
  m17 := by kernel_rfl
  m18 := by kernel_rfl
  m19 := by kernel_rfl }
open Go.RowKit Go.Sort Go.Lib in
/-- strconv.Itoa: "Itoa is equivalent to FormatInt(int64(i), 10).": i's DECIMAL NUMERAL ('Lib.itoa': a '-' where i is negative, then the digits), FOR EVERY int. The world behind the call: the world before it, new blocks behind the heap (the library's 'var a [24]byte'), draws. (LAID: no walk: one application.) -/
theorem Tryd.strconv_Itoa (n : Int) (h0 : -9223372036854775808 ≤ n) (h1 : n ≤ 9223372036854775807) (w : World) (htab : Lib.TabIs Tryd.prog w "internal/strconv.uint64pow10" .u64 Lib.pow10Tab) :
    Calls Tryd.prog 47 #[.int .i64 n] w fun e w' => e = .returned (.string ⟨(Lib.itoa n).toArray⟩) ∧ ∃ k os, w' = grow (w.drewN k) os := Any.strconv_Itoa Tryd.laysM171 n h0 h1 w htab
def Tryd.laysC172_ren : Go.Shelf.Ren := ⟨fun | 172 => 50 | 244 => 76 | 245 => 77 | 247 => 86 | 279 => 87 | 280 => 88 | 281 => 89 | 282 => 90 | 287 => 98 | 316 => 99 | 171 => 47 | 205 => 100 | 321 => 110 | 322 => 111 | 243 => 68 | 246 => 81 | 283 => 91 | 284 => 92 | 285 => 93 | 286 => 94 | 129 => 102 | 317 => 101 | 318 => 103 | 319 => 104 | 320 => 105 | 337 => 112 | 338 => 113 | n => n, fun | 9 => 9 | 3 => 3 | 75 => 60 | 76 => 61 | 4 => 4 | 5 => 5 | 167 => 93 | 37 => 56 | 0 => 0 | 85 => 94 | 2 => 2 | 168 => 96 | 53 => 100 | 175 => 106 | 46 => 108 | 210 => 111 | 127 => 75 | 145 => 129 | 143 => 127 | 21 => 21 | 171 => 99 | 173 => 103 | 212 => 115 | 51 => 116 | 20 => 20 | 213 => 117 | 232 => 131 | 233 => 132 | 80 => 64 | n => n, fun | 15 => 0 | 16 => 1 | 17 => 2 | 18 => 6 | 19 => 7 | n => n⟩
theorem Tryd.laysC172 : Go.Proofs.LaysC.n172 Tryd.prog Tryd.laysC172_ren := {
  mixed := by kernel_rfl
  f129 := Tryd.func102.trans (congrArg some (by kernel_rfl))
  f171 := Tryd.func47.trans (congrArg some (by kernel_rfl))
  f172 := Tryd.func50.trans (congrArg some (by kernel_rfl))
  f205 := Tryd.func100.trans (congrArg some (by kernel_rfl))
  f243 := Tryd.func68.trans (congrArg some (by kernel_rfl))
  f244 := Tryd.func76.trans (congrArg some (by kernel_rfl))
  f245 := Tryd.func77.trans (congrArg some (by kernel_rfl))
  f246 := Tryd.func81.trans (congrArg some (by kernel_rfl))
  f247 := Tryd.func86.trans (congrArg some (by kernel_rfl))
  f279 := Tryd.func87.trans (congrArg some (by kernel_rfl))
  f280 := Tryd.func88.trans (congrArg some (by kernel_rfl))
  f281 := Tryd.func89.trans (congrArg some (by kernel_rfl))
  f282 := Tryd.func90.trans (congrArg some (by kernel_rfl))
  f283 := Tryd.func91.trans (congrArg some (by kernel_rfl))
  f284 := Tryd.func92.trans (congrArg some (by kernel_rfl))
  f285 := Tryd.func93.trans (congrArg some (by kernel_rfl))
  f286 := Tryd.func94.trans (congrArg some (by kernel_rfl))
  f287 := Tryd.func98.trans (congrArg some (by kernel_rfl))
  f316 := Tryd.func99.trans (congrArg some (by kernel_rfl))
  f317 := Tryd.func101.trans (congrArg some (by kernel_rfl))
  f318 := Tryd.func103.trans (congrArg some (by kernel_rfl))
  f319 := Tryd.func104.trans (congrArg some (by kernel_rfl))
  f320 := Tryd.func105.trans (congrArg some (by kernel_rfl))
  f321 := Tryd.func110.trans (congrArg some (by kernel_rfl))
  f322 := Tryd.func111.trans (congrArg some (by kernel_rfl))
  f337 := Tryd.func112.trans (congrArg some (by kernel_rfl))
  f338 := Tryd.func113.trans (congrArg some (by kernel_rfl))
  t0 := Tryd.underlying0
  a0 := Tryd.isAgg0
  z0 := Tryd.sizeOf0
  v0 := Tryd.zeroValue0
  t2 := Tryd.underlying2
  a2 := Tryd.isAgg2
  z2 := Tryd.sizeOf2
  v2 := Tryd.zeroValue2
  t3 := Tryd.underlying3
  a3 := Tryd.isAgg3
  z3 := Tryd.sizeOf3
  v3 := Tryd.zeroValue3
  t4 := Tryd.underlying4
  a4 := Tryd.isAgg4
  z4 := Tryd.sizeOf4
  v4 := Tryd.zeroValue4
  t5 := Tryd.underlying5
  a5 := Tryd.isAgg5
  z5 := Tryd.sizeOf5
  v5 := Tryd.zeroValue5
  t9 := Tryd.underlying9
  a9 := Tryd.isAgg9
  z9 := Tryd.sizeOf9
  v9 := Tryd.zeroValue9
  t20 := Tryd.underlying20
  a20 := Tryd.isAgg20
  z20 := Tryd.sizeOf20
  v20 := Tryd.zeroValue20
  t21 := Tryd.underlying21
  a21 := Tryd.isAgg21
  z21 := Tryd.sizeOf21
  v21 := Tryd.zeroValue21
  t37 := Tryd.underlying56
  a37 := Tryd.isAgg56
  z37 := Tryd.sizeOf56
  v37 := Tryd.zeroValue56
  t46 := Tryd.underlying108
  a46 := Tryd.isAgg108
  z46 := Tryd.sizeOf108
  v46 := Tryd.zeroValue108
  t51 := Tryd.underlying116
  a51 := Tryd.isAgg116
  z51 := Tryd.sizeOf116
  v51 := Tryd.zeroValue116
  t53 := Tryd.underlying100
  a53 := Tryd.isAgg100
  z53 := Tryd.sizeOf100
  v53 := Tryd.zeroValue100
  t75 := Tryd.underlying60
  a75 := Tryd.isAgg60
  z75 := Tryd.sizeOf60
  v75 := Tryd.zeroValue60
  t76 := Tryd.underlying61
  a76 := Tryd.isAgg61
  z76 := Tryd.sizeOf61
  v76 := Tryd.zeroValue61
  t85 := Tryd.underlying94
  a85 := Tryd.isAgg94
  z85 := Tryd.sizeOf94
  v85 := Tryd.zeroValue94
  t127 := Tryd.underlying75
  a127 := Tryd.isAgg75
  z127 := Tryd.sizeOf75
  v127 := Tryd.zeroValue75
  t143 := Tryd.underlying127
  a143 := Tryd.isAgg127
  z143 := Tryd.sizeOf127
  v143 := Tryd.zeroValue127
  t145 := Tryd.underlying129
  a145 := Tryd.isAgg129
  z145 := Tryd.sizeOf129
  v145 := Tryd.zeroValue129
  t167 := Tryd.underlying93
  a167 := Tryd.isAgg93
  z167 := Tryd.sizeOf93
  v167 := Tryd.zeroValue93
  t168 := Tryd.underlying96
  a168 := Tryd.isAgg96
  z168 := Tryd.sizeOf96
  v168 := Tryd.zeroValue96
  t171 := Tryd.underlying99
  a171 := Tryd.isAgg99
  z171 := Tryd.sizeOf99
  v171 := Tryd.zeroValue99
  t173 := Tryd.underlying103
  a173 := Tryd.isAgg103
  z173 := Tryd.sizeOf103
  v173 := Tryd.zeroValue103
  t175 := Tryd.underlying106
  a175 := Tryd.isAgg106
  z175 := Tryd.sizeOf106
  v175 := Tryd.zeroValue106
  t210 := Tryd.underlying111
  a210 := Tryd.isAgg111
  z210 := Tryd.sizeOf111
  v210 := Tryd.zeroValue111
  t212 := Tryd.underlying115
  a212 := Tryd.isAgg115
  z212 := Tryd.sizeOf115
  v212 := Tryd.zeroValue115
  t213 := Tryd.underlying117
  a213 := Tryd.isAgg117
  z213 := Tryd.sizeOf117
  t232 := Tryd.underlying131
  a232 := Tryd.isAgg131
  z232 := Tryd.sizeOf131
  v232 := Tryd.zeroValue131
  t233 := Tryd.underlying132
  a233 := Tryd.isAgg132
  z233 := Tryd.sizeOf132
  v233 := Tryd.zeroValue132
  g15 := by kernel_rfl
  g16 := by kernel_rfl
  g17 := by kernel_rfl
  g18 := by kernel_rfl
  g19 := by kernel_rfl
  t80 := Tryd.underlying64
  a80 := Tryd.isAgg64
  z80 := Tryd.sizeOf64
  v80 := Tryd.zeroValue64
  i0 := by kernel_rfl
  i2 := by kernel_rfl
  i3 := by kernel_rfl
  i4 := by kernel_rfl
  i5 := by kernel_rfl
  i9 := by kernel_rfl
  i20 := by kernel_rfl
  i21 := by kernel_rfl
  i37 := by kernel_rfl
  i46 := by kernel_rfl
  i51 := by kernel_rfl
  i53 := by kernel_rfl
  i75 := by kernel_rfl
  i76 := by kernel_rfl
  i80 := by kernel_rfl
  i85 := by kernel_rfl
  i127 := by kernel_rfl
  i143 := by kernel_rfl
  i145 := by kernel_rfl
  i167 := by kernel_rfl
  i168 := by kernel_rfl
  i171 := by kernel_rfl
  i173 := by kernel_rfl
  i175 := by kernel_rfl
  i210 := by kernel_rfl
  i212 := by kernel_rfl
  i232 := by kernel_rfl
  i233 := by kernel_rfl
  m15 := by kernel_rfl
  m16 := by kernel_rfl
  m17 := by kernel_rfl
  m18 := by kernel_rfl
  m19 := by kernel_rfl
  c0 := by kernel_rfl
  c2 := by kernel_rfl
  c3 := by kernel_rfl
  c4 := by kernel_rfl
  c5 := by kernel_rfl
  c9 := by kernel_rfl
  c20 := by kernel_rfl
  c21 := by kernel_rfl
  c37 := by kernel_rfl
  c46 := by kernel_rfl
  c51 := by kernel_rfl
  c53 := by kernel_rfl
  c75 := by kernel_rfl
  c76 := by kernel_rfl
  c80 := by kernel_rfl
  c85 := by kernel_rfl
  c127 := by kernel_rfl
  c143 := by kernel_rfl
  c145 := by kernel_rfl
  c167 := by kernel_rfl
  c168 := by kernel_rfl
  c171 := by kernel_rfl
  c173 := by kernel_rfl
  c175 := by kernel_rfl
  c210 := by kernel_rfl
  c212 := by kernel_rfl
  c213 := by kernel_rfl
  c232 := by kernel_rfl
  c233 := by kernel_rfl }
open Go.RowKit in
/-- strconv.Atoi, AT EVERY STRING THAT SPELLS AN int ('Lib.atoiAll .. = .ok v'; of whatever length: leading zeros count): v, AND NO ERROR. The world: as it was, or with the one new row that '[]byte(..)' lays. (LAID: no walk: one application.) -/
theorem Tryd.strconv_Atoi_ok (s : ByteArray) (hmax : s.size ≤ 9223372036854775806) (v : Int) (h : Lib.atoiAll s.data.toList = .ok v) (w : World) :
    Calls Tryd.prog 50 #[.string s] w fun e w' => e = .returned (.tuple #[.int .i64 v, .nilIface]) ∧ (w' = w ∨ ∃ t, w' = Lib.bytesWorld w 5 t) := Any.strconv_Atoi_ok Tryd.laysC172 s hmax v h w
end Go.Proofs


namespace Go.VS.YtlogclmmeikbpaaDoor
open Go Go.VL Go.RowKit Go.Proofs
set_option maxRecDepth 100000
set_option linter.unusedVariables false

theorem s_Itoa (z : Int) : Spc X 47 [.one (.int .i64 z)] (.one (.str (Lib.itoa z))) :=
  spc_int (ent_of2 (P := X.P) Tryd.func47 (by kernel_rfl) (by kernel_rfl)) fun w hG h0 h1 => (Tryd.strconv_Itoa z h0 h1 w hG.2).mono fun e w' ⟨he, k, os, hw⟩ => ⟨_, he, .str _ (Nat.le_trans (Lib.itoa_length_le z h0 h1) (by decide)), by rw [hw]; exact Lib.below_grow _ w (Nat.le_refl _) k os⟩
theorem s_Atoi (s : List UInt8) (v : Int) (hs : s.length ≤ 9223372036854775806) (h : Lib.atoiAll s = .ok v) (hv : -9223372036854775808 ≤ v ∧ v ≤ 9223372036854775807) : Spc X 50 [.one (.str s)] (.tup [(false, [.int .i64 v]), (false, [.lit .nilIface])]) :=
  spc_str (ent_of2 (P := X.P) Tryd.func50 (by kernel_rfl) (by kernel_rfl)) fun w hG h0 => (Tryd.strconv_Atoi_ok ⟨s.toArray⟩ (by simpa [ByteArray.size] using hs) v h w).mono fun e w' ⟨he, hw⟩ => ⟨_, he, ⟨#[.int .i64 v, .nilIface], rfl, rfl, fun j x hj => by
    match j, hj with
    | 0, hj => cases hj; exact ⟨_, rfl, _, rfl, .int _ _ ((Go.VL.range_i64 v).2 hv)⟩
    | 1, hj => cases hj; exact ⟨_, rfl, _, rfl, .lit _ rfl⟩⟩, by
      rcases hw with rfl | ⟨t, rfl⟩
      · exact Below.refl _ _
      · exact Go.Joins.below_bytesWorld _ _ _ _ (Nat.le_refl _)⟩
theorem s_Trim (s c : List UInt8) (hc : c.length < 4294967281) (ha : (c.all fun b => decide (b.toNat < 128)) = true) : Spc X 49 [.one (.str s), .one (.str c)] (.one (.str (Lib.trimS s c))) :=
  spc_str2 (ent_of2 (P := X.P) Tryd.func49 (by kernel_rfl) (by kernel_rfl)) fun w hG h0 _ => (Any.strings_Trim_laid Tryd.lays160 (by kernel_rfl) ⟨s.toArray⟩ ⟨c.toArray⟩ w (by simpa [ByteArray.size] using h0) (by simpa [ByteArray.size] using hc) (fun j b hb => by
      have := List.all_eq_true.1 ha b (List.mem_of_getElem? hb)
      simpa using this)).mono fun e w' ⟨he, hw⟩ => ⟨_, he, .str _ (Nat.le_trans (trimS_len s c) h0), hw⟩
end Go.VS.YtlogclmmeikbpaaDoor


namespace Go.VS.YtlogclmmeikbpaaDoor
open Go Go.VL Go.RowKit Go.Proofs
set_option maxRecDepth 100000
set_option linter.unusedVariables false

def bdR : Go.Shelf.Ren := ⟨fun | 169 => 48 | 240 => 67 | 276 => 80 | n => n, fun | 0 => 0 | 3 => 3 | 4 => 4 | 5 => 5 | 9 => 9 | 20 => 20 | 37 => 56 | 70 => 55 | 72 => 58 | 127 => 75 | 164 => 86 | n => n, fun | n => n⟩
theorem bd240 : Go.Proofs.Lays.n240 Tryd.prog bdR := {
  mixed := by kernel_rfl
  f240 := by kernel_rfl
  f276 := by kernel_rfl
  t0 := by kernel_rfl
  a0 := fun _ => by kernel_rfl
  z0 := fun _ => by kernel_rfl
  v0 := fun _ => by kernel_rfl
  t4 := by kernel_rfl
  a4 := fun _ => by kernel_rfl
  z4 := fun _ => by kernel_rfl
  v4 := fun _ => by kernel_rfl
  t9 := by kernel_rfl
  a9 := fun _ => by kernel_rfl
  z9 := fun _ => by kernel_rfl
  v9 := fun _ => by kernel_rfl
  t20 := by kernel_rfl
  a20 := fun _ => by kernel_rfl
  z20 := fun _ => by kernel_rfl
  v20 := fun _ => by kernel_rfl
  t70 := by kernel_rfl
  a70 := fun _ => by kernel_rfl
  z70 := fun _ => by kernel_rfl
  v70 := fun _ => by kernel_rfl
  t72 := by kernel_rfl
  a72 := fun _ => by kernel_rfl
  z72 := fun _ => by kernel_rfl
  v72 := fun _ => by kernel_rfl
  t164 := by kernel_rfl
  a164 := fun _ => by kernel_rfl
  z164 := fun _ => by kernel_rfl
  v164 := fun _ => by kernel_rfl }
theorem bd169 : Go.Proofs.Lays.n169 Tryd.prog bdR := {
  mixed := by kernel_rfl
  f169 := by kernel_rfl
  t0 := by kernel_rfl
  a0 := fun _ => by kernel_rfl
  z0 := fun _ => by kernel_rfl
  v0 := fun _ => by kernel_rfl
  t3 := by kernel_rfl
  a3 := fun _ => by kernel_rfl
  z3 := fun _ => by kernel_rfl
  v3 := fun _ => by kernel_rfl
  t9 := by kernel_rfl
  a9 := fun _ => by kernel_rfl
  z9 := fun _ => by kernel_rfl
  v9 := fun _ => by kernel_rfl
  t37 := by kernel_rfl
  a37 := fun _ => by kernel_rfl
  z37 := fun _ => by kernel_rfl
  v37 := fun _ => by kernel_rfl
  t70 := by kernel_rfl
  a70 := fun _ => by kernel_rfl
  z70 := fun _ => by kernel_rfl
  v70 := fun _ => by kernel_rfl
  t72 := by kernel_rfl
  a72 := fun _ => by kernel_rfl
  z72 := fun _ => by kernel_rfl
  v72 := fun _ => by kernel_rfl
  t127 := by kernel_rfl
  a127 := fun _ => by kernel_rfl
  z127 := fun _ => by kernel_rfl
  v127 := fun _ => by kernel_rfl }
theorem bdX : Go.Proofs.Builder.Extra Tryd.prog bdR := {
  sizeBuilder := by kernel_rfl
  liesBuilder := by kernel_rfl
  t5 := by kernel_rfl
  a5 := fun _ => by kernel_rfl
  z5 := fun _ => by kernel_rfl
  v5 := fun _ => by kernel_rfl
  infoByte := by kernel_rfl
  cellsByte := by kernel_rfl
  sizeByte := by kernel_rfl
  neB5 := by decide }
theorem s_copyCheck {te : TypeId} {n : Nat} {l : List UInt8} : SpcS X 67 [.one (.ptr 1000 0)] (bdH 58 te n l) (.tup []) (bdH 58 te n l) := copyCheck_spc (X := X) bd240 bdX.toX72
theorem s_String (l : List UInt8) : SpcS X 48 [.one (.ptr 1000 0)] (bdH 58 5 l.length l) (.one (.pv (.str l))) [(1000, (.mx [.any, .any], false))] := string_spc (X := X) bd169 bdX
theorem s_WriteString (l s : List UInt8) {n : Nat} (hn : n = l.length) (hb : n + s.length ≤ 140737488355328) : SpcS X 46 [.one (.ptr 1000 0), vS s] (bdH 58 5 n l) (.tup [(false, [.pv (.int .i64 s.length)]), (false, [.pv (.lit .nilIface)])]) (bdH 58 5 (n + s.length) (l ++ s)) := by
  refine SpcS.start 1 Tryd.func46 rfl (h := fun hs hH R hR => ?_)
  unfold Tryd.f46
  simp only [entryV, bdH]
  refine walk (hQ := ?_)
  refine R_callB 0 s_copyCheck (hK := ?_)
  refine walk (hQ := ?_)
  refine hR _ (retS2 (hy := rfl) (hle := ⟨rfl, rfl, trivial⟩))
end Go.VS.YtlogclmmeikbpaaDoor


namespace Go.VS.YtlogclmmeikbpaaDoor
open Go Go.VL Go.VN Go.RowKit Go.Proofs
set_option maxRecDepth 100000
set_option linter.unusedVariables false

def ofR (z : Int) : List Int × Int := if z < 0 then ([], 6) else (digs z.toNat, 0)
theorem s_Of (z : Int) : Spc X 22 [.one (.int .i64 z)] (nr (ofR z)) := by
  refine Spc.start Tryd.func22 rfl (h := fun hs R hR => ?_)
  unfold Tryd.f22
  simp only [entryE, PA.av]
  unfold ofR at hR
  have hz := sane_i64 hs.1
  refine walk (hQ := ?_)
  refine W_if (ht := fun h0 => ?_) (hf := fun h0 => ?_)
  · rw [if_pos h0] at hR
    refine walk (hQ := ?_)
    exact hR _ (ret2 (hp := rfl))
  · rw [if_neg h0] at hR
    obtain ⟨m, rfl⟩ := Int.eq_ofNat_of_zero_le (show 0 ≤ z by omega)
    rw [Int.toNat_natCast] at hR
    refine walk (hQ := ?_)
    refine Lp.intro2 (fun (acc : List Int) (n : Nat) => ⟨[(0, vI n), (2, .one (.ptr 0 0)), (4, .one (.own 1 1 acc.length))], [(0, (.mx [.pv .nil], false)), (1, (.pu 3 (acc.flatMap eI), false))], 2⟩) (fun acc n => acc ++ digs n = digs m ∧ n ≤ m) (fun _ n => n) [] m ⟨rfl, Nat.le_refl _⟩ (h0 := le_ghost1 1 3 (hle := le_auto)) (hr := fun acc n K ⟨he, hn⟩ hK => ?_)
    have hl : acc.length ≤ 5 := by
      have h1 := digs_len m (by omega)
      rw [← he, List.length_append] at h1
      omega
    refine walk (hQ := ?_)
    refine W_if (ht := fun h1 => ?_) (hf := fun h1 => ?_)
    · refine walk (hQ := ?_)
      have e1 : (n : Int) / 10000 = ((n / 10000 : Nat) : Int) := by omega
      have e2 : (n : Int) % 10000 = ((n % 10000 : Nat) : Int) := by omega
      rw [e1, e2]
      refine hK _ (acc ++ [((n % 10000 : Nat) : Int)]) (n / 10000) ⟨?_, by omega⟩ (by omega) le_auto
      rw [← he, digs_pos n (by omega), List.append_assoc]; rfl
    · have h2 : n = 0 := by omega
      subst h2
      rw [digs_zero, List.append_nil] at he
      refine walk (hQ := ?_)
      refine R_callF (s_of acc) (hK := ?_)
      rw [he, tr_digs_id]
      refine walk (hQ := ?_)
      exact hR _ (ret2 (hp := rfl))
end Go.VS.YtlogclmmeikbpaaDoor


namespace Go.VN
open Go.RowKit
set_option linter.unusedVariables false
/-! ### Texts -/
def fmtR (a : List Int) : List UInt8 × Int := if validB a = true then (fmtL a, 0) else ([], 1)
abbrev sr (r : List UInt8 × Int) : Go.VL.PA := .tup [(false, [.str r.1]), (false, [.int .i64 r.2])]
theorem nDigits4 {d : Nat} (h : d < 10000) : Lib.nDigits d ≤ 4 := by
  rw [Lib.nDigits]; split
  · omega
  · rw [Lib.nDigits]; split
    · omega
    · rw [Lib.nDigits]; split
      · omega
      · rw [Lib.nDigits]; split <;> omega
theorem itoa4 {d : Int} (h0 : 0 ≤ d) (h : d < 10000) : (Lib.itoa d).length ≤ 4 := by
  unfold Lib.itoa
  rw [if_neg (by omega), Lib.decDigits_length]
  exact nDigits4 (by omega)
theorem pad4_len {d : Int} (h0 : 0 ≤ d) (h : d < 10000) : (pad4 d).length = 4 := by
  have := itoa4 h0 h
  unfold pad4
  rw [List.length_append, List.length_drop]
  simp only [List.length_cons, List.length_nil]
  omega
theorem pad4_sum {d : Int} (h0 : 0 ≤ d) (h : d < 10000) : (([48, 48, 48, 48] : List UInt8).drop (Lib.itoa d).length).length + (Lib.itoa d).length ≤ 9223372036854775807 := by
  have := pad4_len h0 h
  unfold pad4 at this
  rw [List.length_append] at this
  omega
theorem valid_bounds {a : List Int} (h : validB a = true) : a.length ≤ 200 ∧ ∀ i, 0 ≤ a.getD i 0 ∧ a.getD i 0 < 10000 := by
  obtain ⟨la, da, _⟩ := validB_parts h
  exact ⟨la, fun i => dig_rd da i⟩
theorem fmtL_drop {a : List Int} {i : Nat} (h : i + 1 < a.length) : fmtL (a.drop i) = fmtL (a.drop (i + 1)) ++ pad4 (a.getD i 0) := by
  rw [List.drop_eq_getElem_cons (by omega), fmtL_cons _ _ (fun e => by have := congrArg List.length e; rw [List.length_drop, List.length_nil] at this; omega)]
  simp [List.getD_eq_getElem?_getD, show i < a.length by omega]
theorem fmtL_last {a : List Int} (h : 0 < a.length) : fmtL (a.drop (a.length - 1)) = Lib.itoa (a.getD (a.length - 1) 0) := by
  rw [List.drop_eq_getElem_cons (by omega), List.drop_of_length_le (by omega)]
  simp [fmtL, List.getD_eq_getElem?_getD, show a.length - 1 < a.length by omega]
theorem fmtL_len {a : List Int} (hd : ∀ i, 0 ≤ a.getD i 0 ∧ a.getD i 0 < 10000) : ∀ k, k < a.length → (fmtL (a.drop (a.length - 1 - k))).length ≤ 4 * (k + 1)
  | 0, h => by
    rw [Nat.sub_zero, fmtL_last h]
    exact itoa4 (hd _).1 (hd _).2
  | k + 1, h => by
    have ih := fmtL_len hd k (by omega)
    rw [fmtL_drop (show a.length - 1 - (k + 1) + 1 < a.length by omega), List.length_append, pad4_len (hd _).1 (hd _).2, show a.length - 1 - (k + 1) + 1 = a.length - 1 - k by omega]
    omega
/-! ### Parse -/
def bad (s : List UInt8) : Bool := s.isEmpty || (decide (1 < s.length) && s.head? == some 48) || !(s.all fun c => decide (48 ≤ c.toNat) && decide (c.toNat ≤ 57))
def parseL (s : List UInt8) : List Int × Int := if bad s = true then ([], 2) else if s.length > 800 then ([], 3) else (tr (nums s), 0)
theorem dec_all {s : List UInt8} : (s.all fun c => decide (48 ≤ c.toNat) && decide (c.toNat ≤ 57)) = true ↔ Dec s := by
  simp [Dec]
theorem contains_dec (c : UInt8) : ([48, 49, 50, 51, 52, 53, 54, 55, 56, 57] : List UInt8).contains c = (decide (48 ≤ c.toNat) && decide (c.toNat ≤ 57)) := by
  rw [Bool.eq_iff_iff]
  simp only [List.contains_eq_mem, List.mem_cons, List.not_mem_nil, or_false, decide_eq_true_eq, Bool.and_eq_true, ← UInt8.toNat_inj]
  simp
  omega
theorem dropWhile_nil {α : Type} (p : α → Bool) (l : List α) : l.dropWhile p = [] ↔ l.all p = true := by
  induction l with
  | nil => simp
  | cons a l ih =>
    rw [List.dropWhile_cons]
    cases h : p a <;> simp [h, ih]
theorem dropWhile_all_rev {α : Type} (p : α → Bool) (l : List α) : ((l.reverse.dropWhile p).reverse.dropWhile p = []) ↔ l.all p = true := by
  constructor
  · intro h
    cases hd : l.reverse.dropWhile p with
    | nil =>
      have := (dropWhile_nil p _).1 hd
      rwa [List.all_reverse] at this
    | cons a r =>
      rw [hd] at h
      have h1 := (dropWhile_nil p _).1 h
      rw [List.all_reverse] at h1
      have h2 : p a = true := by
        have := List.all_eq_true.1 h1 a (by simp)
        exact this
      have h3 : ¬ p a = true := by
        have := List.head_dropWhile_not p (l := l.reverse) (by rw [hd]; simp)
        simp [hd] at this
        simp [this]
      exact absurd h2 h3
  · intro h
    have h1 : l.reverse.dropWhile p = [] := (dropWhile_nil p _).2 (by rw [List.all_reverse]; exact h)
    rw [h1]
    rfl
abbrev decSet : List UInt8 := [48, 49, 50, 51, 52, 53, 54, 55, 56, 57]
theorem trimS_dec (s : List UInt8) : Lib.trimS s decSet = [] ↔ Dec s := by
  have h1 := dropWhile_all_rev (fun c : UInt8 => decSet.contains c) s
  have h2 : (s.all fun c => decide (48 ≤ c.toNat) && decide (c.toNat ≤ 57)) = s.all fun c : UInt8 => decSet.contains c := by
    congr 1
    funext c
    rw [contains_dec]
  rw [← dec_all, h2, ← h1]
  rfl
theorem head_ok {l : List UInt8} {c : UInt8} (h : l.head? = some c) (hc : ¬c = 48) (h0 : ¬l = []) : (l.isEmpty || (decide (1 < l.length) && l.head? == some 48)) = false := by
  rw [h]
  simp [hc, h0]
theorem len_ok {l : List UInt8} (h0 : ¬l = []) (h1 : ¬1 < l.length) : (l.isEmpty || (decide (1 < l.length) && l.head? == some 48)) = false := by
  simp [h0, h1]
theorem one_48 {l : List UInt8} (h : l.head? = some 48) (h1 : ¬1 < l.length) : l = [48] := by
  match l, h, h1 with
  | [c], h, _ => simp at h; rw [h]
  | [], h, _ => cases h
  | _ :: _ :: _, _, h1 => exact absurd (by simp) h1
theorem take_snocU (l : List UInt8) (i : Nat) (h : i < l.length) : l.take (i + 1) = l.take i ++ [l[i]] := by simp
theorem bad_nil : bad [] = true := rfl
theorem bad_zero {s : List UInt8} (h0 : s ≠ []) (h1 : s ≠ [48]) (h : s.getD 0 0 = 48) : bad s = true := by
  match s, h0, h1, h with
  | [c], _, h1, h => simp at h; subst h; exact absurd rfl h1
  | c :: d :: l, _, _, h => simp at h; subst h; simp [bad]
theorem bad_ok {s : List UInt8} (h0 : s ≠ []) (h : s = [48] ∨ s.getD 0 0 ≠ 48) : bad s = true ↔ ¬ Dec s := by
  have e : (decide (1 < s.length) && s.head? == some 48) = false := by
    rcases h with rfl | h
    · rfl
    · match s, h0, h with
      | c :: l, _, h => simp at h; simp [h]
  have e2 : s.isEmpty = false := by simpa using h0
  unfold bad
  rw [e, e2, ← dec_all]
  simp
/-! ### Lengths -/
theorem gcd_len (m n : Nat) : (digs (Nat.gcd m n)).length ≤ (digs m).length + (digs n).length := by
  by_cases hm : m = 0
  · rw [hm, Nat.gcd_zero_left]
    omega
  · have := len_of_lt (Nat.gcd_le_left n (show 0 < m by omega))
    omega
end Go.VN


namespace Go.VS.YtlogclmmeikbpaaDoor
open Go Go.VL Go.VN Go.RowKit Go.Proofs
set_option maxRecDepth 100000
set_option linter.unusedVariables false

theorem s_Format (a : List Int) : Spc X 18 [nt a] (sr (fmtR a)) := by
  refine Spc.start Tryd.func18 rfl (h := fun hs R hR => ?_)
  unfold Tryd.f18
  simp only [entryE, PA.av, List.map_cons, List.map_nil]
  refine walk (hQ := ?_)
  have va := s_Valid a
  unfold fmtR at hR
  cases ha : validB a with
  | false =>
    rw [ha] at va
    rw [ha, if_neg (by simp)] at hR
    refine R_call va (hK := ?_)
    refine walk (hQ := ?_)
    exact hR _ (ret2 (hp := rfl))
  | true =>
    rw [ha] at va
    rw [ha, if_pos rfl] at hR
    obtain ⟨la, da⟩ := valid_bounds ha
    refine R_call va (hK := ?_)
    refine walk (hQ := ?_)
    refine W_if (ht := fun h0 => ?_) (hf := fun h0 => ?_)
    · obtain rfl : a = [] := List.eq_nil_of_length_eq_zero (by omega)
      refine walk (hQ := ?_)
      exact hR _ (ret2 (hp := rfl))
    · refine walk (hQ := ?_)
      have ej : ((a.length : Int) - 1).toNat = a.length - 1 := by omega
      rw [ej]
      have hd := da (a.length - 1)
      refine R_call (s_Itoa _) (hK := ?_)
      refine walk (hQ := ?_)
      have hl := itoa4 hd.1 hd.2
      refine R_callB 2 (s_WriteString [] (Lib.itoa (a.getD (a.length - 1) 0)) (n := 0) rfl (by omega)) (hK := ?_)
      refine walk (hQ := ?_)
      refine Lp.intro (fun (i : Nat) => ⟨[(1, .one (.ptr 0 0)), (4, .one (.ptr 1 0)), (6, vI ((i : Int) - 1))], [(0, (.mx [.pv (slc eI a)], false)), (1, (.mx [.adr 1 58 2, .own 2 1 (fmtL (a.drop i)).length], false)), (2, (.pu 5 ((fmtL (a.drop i)).flatMap eU), false))], 3⟩) (fun i => i < a.length) (fun i => i) (a.length - 1) (by omega) (h0 := ?_) (hr := fun i K hi hK => ?_)
      · rw [fmtL_last (by omega)]
        simp only [Nat.zero_add, List.nil_append]
        exact le_auto (hh := ⟨rfl, rfl, rfl, trivial⟩)
      refine walk (hQ := ?_)
      refine W_if (ht := fun h1 => ?_) (hf := fun h1 => ?_)
      · obtain ⟨j, rfl⟩ : ∃ j, i = j + 1 := ⟨i - 1, by omega⟩
        have e0 : ((j + 1 : Nat) : Int) - 1 = (j : Int) := by omega
        rw [e0]
        have hd := da j
        have hl := itoa4 hd.1 hd.2
        refine walk (hQ := ?_)
        refine R_call (s_Itoa _) (hK := ?_)
        refine walk (hQ := ?_)
        refine R_sadd (hr := pad4_sum hd.1 hd.2) (hK := ?_)
        refine walk (hQ := ?_)
        have hlen := fmtL_len da (a.length - 1 - (j + 1)) (by omega)
        rw [show a.length - 1 - (a.length - 1 - (j + 1)) = j + 1 by omega] at hlen
        have hp := pad4_len hd.1 hd.2
        refine R_callB 2 (s_WriteString (fmtL (a.drop (j + 1))) (pad4 (a.getD j 0)) rfl (by omega)) (hK := ?_)
        refine walk (hQ := ?_)
        refine hK _ j (by omega) (by omega) ?_
        rw [fmtL_drop (show j + 1 < a.length by omega), List.length_append]
        exact le_auto (hh := ⟨rfl, rfl, rfl, trivial⟩)
      · obtain rfl : i = 0 := by omega
        refine walk (hQ := ?_)
        rw [List.drop_zero]
        refine R_callBC 2 (s_String (fmtL a)) (hK := ?_)
        refine walk (hQ := ?_)
        exact hR _ (ret2 (hp := rfl))
end Go.VS.YtlogclmmeikbpaaDoor


namespace Go.VS.YtlogclmmeikbpaaDoor
open Go Go.VL Go.VN Go.RowKit Go.Proofs
set_option maxRecDepth 100000
set_option linter.unusedVariables false

theorem s_Parse (s : List UInt8) : Spc X 20 [.one (.str s)] (nr (parseL s)) := by
  refine Spc.start Tryd.func20 rfl (h := fun hs R hR => ?_)
  unfold Tryd.f20
  simp only [entryE, PA.av]
  refine walk (hQ := ?_)
  refine R_g_if (h1 := fun h0 => ?_) (h2 := fun h0 => ?_)
  · simp only [Bool.false_eq_true, if_false] at h0
    refine walk (hQ := ?_)
    refine R_g_if (h1 := fun h1 => ?_) (h2 := fun h1 => ?_)
    · simp only [if_true] at h1
      have h2 : 0 < s.length := List.length_pos_iff.2 h0
      refine walk (hQ := ?_)
      refine R_g_if (h1 := fun h3 => ?_) (h2 := fun h3 => ?_)
      · simp only [Bool.false_eq_true, if_false] at h3
        have h4 : s = [48] ∨ s.getD 0 0 ≠ 48 := .inr fun e => h3 (by show ((s.getD 0 0).toNat : Int) = 48; rw [e]; rfl)
        refine walk (hQ := ?_)
        refine R_call (s_Trim s decSet (by decide) (by decide)) (hK := ?_)
        refine walk (hQ := ?_)
        have hb := bad_ok h0 h4
        refine W_if (ht := fun h5 => ?_) (hf := fun h5 => ?_)
        · have h6 : bad s = true := hb.2 fun hd => h5 ((trimS_dec s).2 hd)
          refine walk (hQ := ?_)
          refine hR _ (ret2 (hp := ?_))
          unfold parseL
          rw [if_pos h6]; rfl
        · have hd : Dec s := (trimS_dec s).1 (by simpa using h5)
          have h6 : ¬ bad s = true := fun e => hb.1 e hd
          unfold parseL at hR
          rw [if_neg h6] at hR
          refine walk (hQ := ?_)
          refine W_if (ht := fun h7 => ?_) (hf := fun h7 => ?_)
          · rw [if_pos (show s.length > 800 by omega)] at hR
            refine walk (hQ := ?_)
            exact hR _ (ret2 (hp := rfl))
          · rw [if_neg (show ¬ s.length > 800 by omega)] at hR
            refine walk (hQ := ?_)
            refine Lp.intro2 (fun (acc : List Int) (c : List UInt8) => ⟨[(0, vS c), (2, .one (.ptr 0 0)), (4, .one (.own 1 1 acc.length))], [(0, (.mx [.pv .nil], false)), (1, (.pu 3 (acc.flatMap eI), false))], 2⟩) (fun acc c => acc ++ nums c = nums s ∧ Dec c ∧ c.length ≤ 800) (fun _ c => c.length) [] s ⟨rfl, hd, by omega⟩ (h0 := le_ghost1 1 3 (hle := le_auto)) (hr := fun acc c K ⟨he, hdc, hlc⟩ hK => ?_)
            have hla : acc.length ≤ 1000 := by
              have h8 := congrArg List.length he
              have h9 := nums_len s
              rw [List.length_append] at h8
              omega
            refine walk (hQ := ?_)
            refine W_if (ht := fun h8 => ?_) (hf := fun h8 => ?_)
            · have hne : c ≠ [] := fun e => by rw [e] at h8; simp at h8
              refine walk (hQ := ?_)
              have e1 : max ((c.length : Int) - 4) 0 = ((c.length - 4 : Nat) : Int) := by omega
              rw [e1, Int.toNat_natCast]
              have hdd : Dec (c.drop (c.length - 4)) := hdc.drop _
              have hdl : (c.drop (c.length - 4)).length ≤ 4 := by rw [List.length_drop]; omega
              have hdn : c.drop (c.length - 4) ≠ [] := fun e => by have := congrArg List.length e; rw [List.length_drop, List.length_nil] at this; omega
              have hdv := dv_lt hdd
              have hdv2 : 10 ^ (c.drop (c.length - 4)).length ≤ 10 ^ 4 := Nat.pow_le_pow_right (by decide) hdl
              refine R_call (s_Atoi (c.drop (c.length - 4)) _ (by omega) (atoi_dec hdd hdn (by omega)) (by omega)) (hK := ?_)
              refine walk (hQ := ?_)
              refine hK _ (acc ++ [(dv (c.drop (c.length - 4)) : Int)]) (c.take (c.length - 4)) ⟨?_, hdc.take _, by rw [List.length_take]; omega⟩ (by rw [List.length_take]; omega) le_auto
              rw [← he, nums_cons c hne, List.append_assoc]; rfl
            · have hc : c = [] := List.eq_nil_of_length_eq_zero (by omega)
              rw [hc, nums_nil, List.append_nil] at he
              refine walk (hQ := ?_)
              refine R_callF (s_of acc) (hK := ?_)
              rw [he]
              refine walk (hQ := ?_)
              exact hR _ (ret2 (hp := rfl))
      · simp only [Bool.false_eq_true, if_false] at h3
        have h4 : s.getD 0 0 = 48 := by
          have h5 : ((s.getD 0 0).toNat : Int) = 48 := h3
          exact UInt8.toNat_inj.1 (by show (s.getD 0 0).toNat = 48; omega)
        refine walk (hQ := ?_)
        refine hR _ (ret2 (hp := ?_))
        unfold parseL
        rw [if_pos (bad_zero h0 h1 h4)]
        rfl
    · simp only [if_true, Decidable.not_not] at h1
      have h4 : s = [48] ∨ s.getD 0 0 ≠ 48 := .inl h1
      refine walk (hQ := ?_)
      refine R_call (s_Trim s decSet (by decide) (by decide)) (hK := ?_)
      refine walk (hQ := ?_)
      have hb := bad_ok h0 h4
      refine W_if (ht := fun h5 => ?_) (hf := fun h5 => ?_)
      · have h6 : bad s = true := hb.2 fun hd => h5 ((trimS_dec s).2 hd)
        refine walk (hQ := ?_)
        refine hR _ (ret2 (hp := ?_))
        unfold parseL
        rw [if_pos h6]; rfl
      · have hd : Dec s := (trimS_dec s).1 (by simpa using h5)
        have h6 : ¬ bad s = true := fun e => hb.1 e hd
        unfold parseL at hR
        rw [if_neg h6] at hR
        refine walk (hQ := ?_)
        refine W_if (ht := fun h7 => ?_) (hf := fun h7 => ?_)
        · rw [if_pos (show s.length > 800 by omega)] at hR
          refine walk (hQ := ?_)
          exact hR _ (ret2 (hp := rfl))
        · rw [if_neg (show ¬ s.length > 800 by omega)] at hR
          refine walk (hQ := ?_)
          refine Lp.intro2 (fun (acc : List Int) (c : List UInt8) => ⟨[(0, vS c), (2, .one (.ptr 0 0)), (4, .one (.own 1 1 acc.length))], [(0, (.mx [.pv .nil], false)), (1, (.pu 3 (acc.flatMap eI), false))], 2⟩) (fun acc c => acc ++ nums c = nums s ∧ Dec c ∧ c.length ≤ 800) (fun _ c => c.length) [] s ⟨rfl, hd, by omega⟩ (h0 := le_ghost1 1 3 (hle := le_auto)) (hr := fun acc c K ⟨he, hdc, hlc⟩ hK => ?_)
          have hla : acc.length ≤ 1000 := by
            have h8 := congrArg List.length he
            have h9 := nums_len s
            rw [List.length_append] at h8
            omega
          refine walk (hQ := ?_)
          refine W_if (ht := fun h8 => ?_) (hf := fun h8 => ?_)
          · have hne : c ≠ [] := fun e => by rw [e] at h8; simp at h8
            refine walk (hQ := ?_)
            have e1 : max ((c.length : Int) - 4) 0 = ((c.length - 4 : Nat) : Int) := by omega
            rw [e1, Int.toNat_natCast]
            have hdd : Dec (c.drop (c.length - 4)) := hdc.drop _
            have hdl : (c.drop (c.length - 4)).length ≤ 4 := by rw [List.length_drop]; omega
            have hdn : c.drop (c.length - 4) ≠ [] := fun e => by have := congrArg List.length e; rw [List.length_drop, List.length_nil] at this; omega
            have hdv := dv_lt hdd
            have hdv2 : 10 ^ (c.drop (c.length - 4)).length ≤ 10 ^ 4 := Nat.pow_le_pow_right (by decide) hdl
            refine R_call (s_Atoi (c.drop (c.length - 4)) _ (by omega) (atoi_dec hdd hdn (by omega)) (by omega)) (hK := ?_)
            refine walk (hQ := ?_)
            refine hK _ (acc ++ [(dv (c.drop (c.length - 4)) : Int)]) (c.take (c.length - 4)) ⟨?_, hdc.take _, by rw [List.length_take]; omega⟩ (by rw [List.length_take]; omega) le_auto
            rw [← he, nums_cons c hne, List.append_assoc]; rfl
          · have hc : c = [] := List.eq_nil_of_length_eq_zero (by omega)
            rw [hc, nums_nil, List.append_nil] at he
            refine walk (hQ := ?_)
            refine R_callF (s_of acc) (hK := ?_)
            rw [he]
            refine walk (hQ := ?_)
            exact hR _ (ret2 (hp := rfl))
  · simp only [Bool.false_eq_true, if_false] at h0
    refine walk (hQ := ?_)
    refine hR _ (ret2 (hp := ?_))
    rw [show s = [] from h0]; rfl
end Go.VS.YtlogclmmeikbpaaDoor


namespace Go.VS.YtlogclmmeikbpaaDoor
open Go Go.VL Go.VN Go.RowKit Go.Proofs
set_option maxRecDepth 100000
set_option linter.unusedVariables false

theorem r_trim (l : List Int) : Spc X 52 [.one (slc eI l)] (.one (slc eI (tr l))) := by
  refine Spc.start Tryd.func52 rfl (h := fun hs R hR => ?_)
  have hlen := (sane_I hs.1).1
  unfold Tryd.f52
  simp only [entryE, PA.av]
  refine walk (hQ := ?_)
  refine Lp.intro (fun m : Nat => ⟨[(0, vP (slc eI (l.take m)))], [], 0⟩) (fun m => m ≤ l.length ∧ tr (l.take m) = tr l) (fun m => m) l.length ⟨Nat.le_refl _, by simp⟩ (h0 := le_auto (he := ⟨⟨_, rfl, avLe_slc (by simp)⟩, trivial⟩)) (hr := fun m K ⟨hm, he⟩ hK => ?_)
  have hl : (l.take m).length = m := by simp [hm]
  refine walk (hQ := ?_)
  refine R_g_if (h1 := fun hp => ?_) (h2 := fun hp => ?_)
  · simp only [if_true, hl] at hp
    refine walk (hQ := ?_)
    obtain ⟨q, rfl⟩ : ∃ q, m = q + 1 := ⟨m - 1, by omega⟩
    have e1 : ((l.take (q + 1)).length - 1 : Int).toNat = q := by omega
    rw [e1, gd_take (by omega)]
    refine W_if (ht := fun h0 => ?_) (hf := fun h0 => ?_)
    · refine walk (hQ := ?_)
      refine hK _ q ⟨by omega, ?_⟩ (by omega) ?_
      · rw [← he, take_snoc (by omega), h0, tr_zero]
      · exact le_auto (he := ⟨⟨_, rfl, avLe_slc (by rw [e1, List.take_take, Nat.min_eq_left (by omega)])⟩, trivial⟩)
    · refine walk (hQ := ?_)
      refine hR _ (ret1 (hp := ?_))
      rw [← he, take_snoc (by omega), tr_last _ _ h0]
  · simp only [if_true, hl] at hp
    refine walk (hQ := ?_)
    refine hR _ (ret1 (hp := ?_))
    rw [← he]
    obtain rfl : m = 0 := by omega
    simp [tr]
theorem r_digit (l : List Int) (i : Nat) : Spc X 66 [.one (slc eI l), .one (.int .i64 i)] (.one (.int .i64 (l.getD i 0))) := by
  refine Spc.start Tryd.func66 rfl (h := fun hs R hR => ?_)
  unfold Tryd.f66
  simp only [entryE, PA.av]
  refine walk (hQ := ?_)
  refine W_if (ht := fun h0 => ?_) (hf := fun h0 => ?_)
  · refine walk (hQ := ?_)
    exact hR _ (ret1 (hp := rfl))
  · refine walk (hQ := ?_)
    refine hR _ (ret1 (hp := ?_))
    have : l.getD i 0 = 0 := rd_out l i (by omega)
    rw [this]
theorem r_cmp (a b : List Int) : Spc X 56 [.one (slc eI a), .one (slc eI b)] (.one (.int .i64 (cmpL a b))) := by
  refine Spc.start Tryd.func56 rfl (h := fun hs R hR => ?_)
  have ha := sane_I hs.1
  have hb := sane_I hs.2.1
  unfold Tryd.f56
  simp only [entryE, PA.av]
  refine walk (hQ := ?_)
  refine W_if (ht := fun h0 => ?_) (hf := fun h0 => ?_)
  · refine walk (hQ := ?_)
    refine hR _ (ret1 (hp := ?_))
    unfold cmpL
    rw [if_pos (by omega)]
  · refine walk (hQ := ?_)
    refine W_if (ht := fun h1 => ?_) (hf := fun h1 => ?_)
    · refine walk (hQ := ?_)
      refine hR _ (ret1 (hp := ?_))
      unfold cmpL
      rw [if_neg (by omega), if_pos (by omega)]
    · refine walk (hQ := ?_)
      refine Lp.intro (fun i : Nat => ⟨[(0, vP (slc eI a)), (1, vP (slc eI b)), (5, vI ((i : Int) - 1))], [], 0⟩) (fun i => i ≤ a.length ∧ cmpFrom a b i = cmpFrom a b a.length) (fun i => i) a.length ⟨Nat.le_refl _, rfl⟩ (h0 := le_auto) (hr := fun i K ⟨hi, he⟩ hK => ?_)
      have hc : cmpL a b = cmpFrom a b a.length := by unfold cmpL; rw [if_neg (by omega), if_neg (by omega)]
      refine walk (hQ := ?_)
      refine W_if (ht := fun h2 => ?_) (hf := fun h2 => ?_)
      · obtain ⟨j, rfl⟩ : ∃ j, i = j + 1 := ⟨i - 1, by omega⟩
        have e : (((j + 1 : Nat) : Int) - 1) = (j : Int) := by omega
        rw [e]
        rw [cmpFrom] at he
        have ea : rd a (j : Int) = a.getD j 0 := rfl
        have eb : rd b (j : Int) = b.getD j 0 := rfl
        rw [ea, eb] at he
        refine walk (hQ := ?_)
        refine W_if (ht := fun h3 => ?_) (hf := fun h3 => ?_)
        · refine walk (hQ := ?_)
          refine hR _ (ret1 (hp := ?_))
          rw [hc, ← he, if_pos h3]
        · refine walk (hQ := ?_)
          refine W_if (ht := fun h4 => ?_) (hf := fun h4 => ?_)
          · refine walk (hQ := ?_)
            refine hR _ (ret1 (hp := ?_))
            rw [hc, ← he, if_neg h3, if_pos (by omega)]
          · refine walk (hQ := ?_)
            refine hK _ j ⟨by omega, ?_⟩ (by omega) le_auto
            rw [← he, if_neg (by omega), if_neg (by omega)]
      · refine walk (hQ := ?_)
        refine hR _ (ret1 (hp := ?_))
        obtain rfl : i = 0 := by omega
        rw [hc, ← he]
        rfl
theorem r_Cmp (a b : List Int) : Spc X 27 [nt a, nt b] (.one (.int .i64 (cmpL a b))) := by
  refine Spc.start Tryd.func27 rfl (h := fun hs R hR => ?_)
  unfold Tryd.f27
  simp only [entryE, PA.av, List.map_cons, List.map_nil]
  refine walk (hQ := ?_)
  refine R_call (r_cmp a b) (hK := ?_)
  refine walk (hQ := ?_)
  exact hR _ (ret1 (hp := rfl))
theorem r_Same (a b : List Int) : Spc X 17 [nt a, nt b] (.one (.bool (decide (a = b)))) := by
  refine Spc.start Tryd.func17 rfl (h := fun hs R hR => ?_)
  unfold Tryd.f17
  simp only [entryE, PA.av, List.map_cons, List.map_nil]
  refine walk (hQ := ?_)
  refine R_call (r_Cmp a b) (hK := ?_)
  refine walk (hQ := ?_)
  refine hR _ (ret1 (hp := ?_))
  by_cases h : a = b
  · subst h; rw [cmpL_self]; simp
  · have : ¬ cmpL a b = 0 := fun e => h (cmpL_zero e)
    simp [h, this]
theorem r_within (n : Nat) : Spc X 44 [.one (slc eI (digs n))] (nr (fit n)) := by
  refine Spc.start Tryd.func44 rfl (h := fun hs R hR => ?_)
  unfold Tryd.f44
  simp only [entryE, PA.av]
  unfold fit at hR
  refine walk (hQ := ?_)
  refine W_if (ht := fun h0 => ?_) (hf := fun h0 => ?_)
  · rw [if_pos (by omega)] at hR
    refine walk (hQ := ?_)
    exact hR _ (ret2 (hp := rfl))
  · rw [if_neg (by omega)] at hR
    refine walk (hQ := ?_)
    exact hR _ (ret2 (hp := rfl))
end Go.VS.YtlogclmmeikbpaaDoor


namespace Go.VS.YtlogclmmeikbpaaDoor
open Go Go.VL Go.VN Go.RowKit Go.Proofs
set_option maxRecDepth 100000
set_option linter.unusedVariables false

theorem all_good {l : List Int} : (l.all fun d => decide (0 ≤ d) && decide (d < 10000)) = decide (∀ j, j < l.length → 0 ≤ l.getD j 0 ∧ l.getD j 0 < 10000) := by
  by_cases h : ∀ j, j < l.length → 0 ≤ l.getD j 0 ∧ l.getD j 0 < 10000
  · rw [decide_eq_true h, List.all_eq_true]
    intro d hd
    obtain ⟨j, hj, rfl⟩ := List.getElem_of_mem hd
    have := h j hj
    rw [List.getD_eq_getElem?_getD, List.getElem?_eq_getElem hj] at this
    simpa using this
  · rw [decide_eq_false h]
    cases ha : (l.all fun d => decide (0 ≤ d) && decide (d < 10000)) with
    | false => rfl
    | true =>
      refine absurd (fun j hj => ?_) h
      have := List.all_eq_true.1 ha _ (List.getElem_mem hj)
      rw [List.getD_eq_getElem?_getD, List.getElem?_eq_getElem hj]
      simpa using this
theorem r_Valid (l : List Int) : Spc X 25 [nt l] (.one (.bool (validB l))) := by
  refine Spc.start Tryd.func25 rfl (h := fun hs R hR => ?_)
  unfold Tryd.f25
  simp only [entryE, PA.av, List.map_cons, List.map_nil]
  refine walk (hQ := ?_)
  by_cases h0 : 200 < (l.length : Int)
  · refine R_g_if (h1 := fun h1 => ?_) (h2 := fun h1 => ?_)
    · simp only [Bool.false_eq_true, if_false] at h1; exact absurd h0 h1
    · refine walk (hQ := ?_)
      refine hR _ (ret1 (hp := ?_))
      unfold validB
      rw [decide_eq_false (by omega)]; rfl
  · refine R_g_if (h1 := fun h1 => ?_) (h2 := fun h1 => ?_)
    · clear h1
      refine walk (hQ := ?_)
      have ej : 0 < l.length → ((l.length : Int) - 1).toNat = l.length - 1 := fun h => by omega
      have hg : 0 < l.length → l.getLast? = some (l.getD (l.length - 1) 0) := fun h => by
        rw [List.getLast?_eq_getElem?, List.getD_eq_getElem?_getD, List.getElem?_eq_getElem (by omega)]; rfl
      refine R_g_if (h1 := fun h1 => ?_) (h2 := fun h1 => ?_)
      case' refine_1 =>
        simp only [if_true] at h1
        refine walk (hQ := ?_)
        rw [ej (by omega)]
        refine W_if (ht := fun h2 => ?_) (hf := fun h2 => ?_)
        case' refine_1 =>
          refine walk (hQ := ?_)
          refine hR _ (ret1 (hp := ?_))
          unfold validB
          rw [hg (by omega), h2]; simp
        case' refine_2 =>
          have hv : validB l = (l.all fun d => decide (0 ≤ d) && decide (d < 10000)) := by
            unfold validB
            rw [decide_eq_true (by omega), hg (by omega)]
            have h3 : (some (l.getD (l.length - 1) 0) == some 0) = false := by simpa using h2
            rw [h3]; rfl
      case' refine_2 =>
        simp only [if_true] at h1
        have hv : validB l = (l.all fun d => decide (0 ≤ d) && decide (d < 10000)) := by
          have h2 : l = [] := List.eq_nil_of_length_eq_zero (by omega)
          subst h2
          rfl
      all_goals
        refine walk (hQ := ?_)
        rw [hv, all_good] at hR
        refine Lp.intro (fun i : Nat => ⟨[(1, .one (.ptr 0 0)), (3, vI l.length), (4, vI i)], [(0, (.mx [.pv (slc eI l)], false))], 1⟩) (fun i => i ≤ l.length ∧ ∀ j, j < i → 0 ≤ l.getD j 0 ∧ l.getD j 0 < 10000) (fun i => l.length - i) 0 ⟨Nat.zero_le _, fun j hj => by omega⟩ (h0 := le_auto) (hr := fun i K ⟨hi, hb⟩ hK => ?_)
        refine walk (hQ := ?_)
        refine W_if (ht := fun h3 => ?_) (hf := fun h3 => ?_)
        · refine walk (hQ := ?_)
          refine R_g_if (h1 := fun h4 => ?_) (h2 := fun h4 => ?_)
          · simp only [Bool.false_eq_true, if_false] at h4
            refine walk (hQ := ?_)
            refine W_if (ht := fun h5 => ?_) (hf := fun h5 => ?_)
            · refine walk (hQ := ?_)
              refine hR _ (ret1 (hp := ?_))
              rw [decide_eq_false fun h => by have := (h i (by omega)).2; omega]
            · refine walk (hQ := ?_)
              refine hK _ (i + 1) ⟨by omega, fun j hj => ?_⟩ (by omega) le_auto
              rcases Nat.lt_or_ge j i with h | h
              · exact hb j h
              · obtain rfl : j = i := by omega
                omega
          · simp only [Bool.false_eq_true, if_false] at h4
            refine walk (hQ := ?_)
            refine hR _ (ret1 (hp := ?_))
            rw [decide_eq_false fun h => by have := (h i (by omega)).1; omega]
        · refine walk (hQ := ?_)
          refine hR _ (ret1 (hp := ?_))
          rw [decide_eq_true fun j hj => hb j (by omega)]
    · simp only [Bool.false_eq_true, if_false] at h1; exact absurd h1 h0
end Go.VS.YtlogclmmeikbpaaDoor


namespace Go.VS.YtlogclmmeikbpaaDoor
open Go Go.VL Go.VN Go.RowKit Go.Proofs
set_option maxRecDepth 100000
set_option linter.unusedVariables false

theorem r_less (m n : Nat) (hmn : n ≤ m) (lm : (digs m).length ≤ 1000000) : Spc X 60 [.one (slc eI (digs m)), .one (slc eI (digs n))] (.one (slc eI (digs (m - n)))) := by
  refine Spc.start Tryd.func60 rfl (h := fun hs R hR => ?_)
  have ha := dig_digs m
  have hb := dig_digs n
  have hv : val (digs n) ≤ val (digs m) := by rw [val_digs, val_digs]; omega
  have lb : (digs n).length ≤ (digs m).length := len_of_lt hmn
  have er : digs (m - n) = digs (val (digs m) - val (digs n)).toNat := by rw [val_digs, val_digs]; congr 1; omega
  unfold Tryd.f60
  simp only [entryE, PA.av]
  rw [er] at hR
  clear hs
  generalize digs m = a at *
  generalize digs n = b at *
  refine walk (hQ := ?_)
  refine Lp.intro3 (fun (i : Nat) (out : List Int) (c : Int) => ⟨[(0, vP (slc eI a)), (1, vP (slc eI b)), (5, .one (.own 0 1 out.length)), (6, vI c), (7, vI i)], [(0, (.pu 3 (out.flatMap eI), false))], 1⟩)
    (fun i out c => i ≤ a.length ∧ out.length = i ∧ Dig out ∧ 0 ≤ c ∧ c ≤ 1 ∧ val out - c * 10000 ^ i = val (a.take i) - val (b.take i)) (fun i _ _ => a.length - i) 0 [] 0 ⟨Nat.zero_le _, rfl, Dig.nil, by omega, by omega, by simp [val]⟩
    (h0 := le_ghost1 0 3 (hle := le_auto)) (hr := fun i out c K ⟨hi, hl, hd, c0, c1, he⟩ hK => ?_)
  refine walk (hQ := ?_)
  refine W_if (ht := fun h1 => ?_) (hf := fun h1 => ?_)
  · have hx : 0 ≤ a.getD i 0 ∧ a.getD i 0 < 10000 := dig_rd ha i
    have hy : 0 ≤ b.getD i 0 ∧ b.getD i 0 < 10000 := dig_rd hb i
    have stp : ∀ (z q : Int), (a.getD i 0 - b.getD i 0 - c < 0 ∧ z = a.getD i 0 - b.getD i 0 - c + 10000 ∧ q = 1) ∨ (¬ a.getD i 0 - b.getD i 0 - c < 0 ∧ z = a.getD i 0 - b.getD i 0 - c ∧ q = 0) →
        Dig (out ++ [z]) ∧ val (out ++ [z]) - q * 10000 ^ (i + 1) = val (a.take (i + 1)) - val (b.take (i + 1)) := fun z q hzq => by
      refine ⟨hd.join (Dig.one (by omega) (by omega)), ?_⟩
      have hpow : (10000 : Int) ^ (i + 1) = 10000 ^ i * 10000 := Int.pow_succ ..
      have e1 : rd a i = a.getD i 0 := rfl
      have e2 : rd b i = b.getD i 0 := rfl
      rw [val_snoc, hl, vt_succ, vt_succ, hpow, e1, e2]
      generalize a.getD i 0 = x at *
      generalize b.getD i 0 = y at *
      generalize (10000 : Int) ^ i = P at *
      generalize val (b.take i) = B at *
      generalize val (a.take i) = A at *
      generalize val out = U at *
      clear hd hK hR hl hi e1 e2
      grind
    refine walk (hQ := ?_)
    refine R_call (r_digit b i) (hK := ?_)
    refine walk (hQ := ?_)
    refine W_if (ht := fun h3 => ?_) (hf := fun h3 => ?_)
    · have s := stp _ _ (.inl ⟨h3, rfl, rfl⟩)
      refine walk (hQ := ?_)
      exact hK _ (i + 1) _ 1 ⟨by omega, by rw [List.length_append, hl]; rfl, s.1, by omega, by omega, s.2⟩ (by omega) le_auto
    · have s := stp _ _ (.inr ⟨h3, rfl, rfl⟩)
      refine walk (hQ := ?_)
      exact hK _ (i + 1) _ 0 ⟨by omega, by rw [List.length_append, hl]; rfl, s.1, by omega, by omega, s.2⟩ (by omega) le_auto
  · obtain rfl : i = a.length := by omega
    refine walk (hQ := ?_)
    refine R_callF (r_trim out) (hK := ?_)
    refine walk (hQ := ?_)
    refine hR _ (ret1 (hp := ?_))
    rw [List.take_length, List.take_of_length_le (l := b) (by omega)] at he
    have h2 := val_lt hd
    rw [hl] at h2
    have hc : c = 0 := by
      rcases (by omega : c = 0 ∨ c = 1) with h | h
      · exact h
      · subst h; omega
    subst hc
    rw [tr_digs hd]
    congr 3
    omega
end Go.VS.YtlogclmmeikbpaaDoor


namespace Go.VS.YtlogclmmeikbpaaDoor
open Go Go.VL Go.VN Go.RowKit Go.Proofs
set_option maxRecDepth 100000
set_option linter.unusedVariables false

theorem r_sum (a b : List Int) (ha : Dig a) (hb : Dig b) (la : a.length ≤ 1000000) (lb : b.length ≤ 1000000) : Spc X 61 [.one (slc eI a), .one (slc eI b)] (.one (slc eI (digs (val a + val b).toNat))) := by
  refine Spc.start Tryd.func61 rfl (h := fun hs R hR => ?_)
  unfold Tryd.f61
  simp only [entryE, PA.av]
  refine walk (hQ := ?_)
  refine Lp.intro3 (fun (i : Nat) (out : List Int) (c : Int) => ⟨[(0, vP (slc eI a)), (1, vP (slc eI b)), (5, .one (.own 0 1 out.length)), (6, vI c), (7, vI i)], [(0, (.pu 3 (out.flatMap eI), false))], 1⟩)
    (fun i out c => i ≤ max a.length b.length ∧ VN.Sum a b out i c) (fun i _ _ => max a.length b.length - i) 0 [] 0 ⟨Nat.zero_le _, Sum.start a b⟩
    (h0 := le_ghost1 0 3 (hle := le_auto)) (hr := fun i out c K ⟨hi, hS⟩ hK => ?_)
  have hlen := hS.len
  have c0 := hS.c0
  have c1 := hS.c1
  have hx : 0 ≤ a.getD i 0 ∧ a.getD i 0 < 10000 := dig_rd ha i
  have hy : 0 ≤ b.getD i 0 ∧ b.getD i 0 < 10000 := dig_rd hb i
  refine walk (hQ := ?_)
  refine R_g_if (h1 := fun h1 => ?_) (h2 := fun h1 => ?_)
  case' refine_1 =>
    simp only [Bool.false_eq_true, if_false] at h1
    refine walk (hQ := ?_)
    refine W_if (ht := fun h2 => ?_) (hf := fun h2 => ?_)
    case' refine_1 => have hlt : i < max a.length b.length := by omega
    case' refine_2 =>
      refine walk (hQ := ?_)
      refine R_callF (r_trim (out ++ [c])) (hK := ?_)
      refine walk (hQ := ?_)
      refine hR _ (ret1 (hp := ?_))
      have h3 := hS.eq
      rw [List.take_of_length_le (by omega), List.take_of_length_le (by omega)] at h3
      rw [tr_digs (hS.dig.join (Dig.one c0 (by omega))), val_snoc, hlen, ← h3]
      congr 3
      rw [Int.mul_comm]
  case' refine_2 =>
    simp only [Bool.false_eq_true, if_false] at h1
    have hlt : i < max a.length b.length := by omega
  all_goals
    refine walk (hQ := ?_)
    refine R_call (r_digit a i) (hK := ?_)
    refine walk (hQ := ?_)
    refine R_call (r_digit b i) (hK := ?_)
    refine walk (hQ := ?_)
    have e : a.getD i 0 + b.getD i 0 + c = c + a.getD i 0 + b.getD i 0 := by omega
    rw [e]
    refine hK _ (i + 1) _ _ ⟨by omega, hS.next (q := (c + a.getD i 0 + b.getD i 0) / 10000) (r := (c + a.getD i 0 + b.getD i 0) % 10000) (by omega) (by omega) (by omega) (by omega) ?_⟩ (by omega) ?_
    · exact (Int.mul_ediv_add_emod _ 10000).symm
    · exact le_auto
end Go.VS.YtlogclmmeikbpaaDoor


namespace Go.VS.YtlogclmmeikbpaaDoor
open Go Go.VL Go.VN Go.RowKit Go.Proofs
set_option maxRecDepth 100000
set_option linter.unusedVariables false

theorem r_times (a b : List Int) (ha : Dig a) (hb : Dig b) (la : a.length ≤ 1000000) (lb : b.length ≤ 1000000) : Spc X 45 [.one (slc eI a), .one (slc eI b)] (.one (slc eI (digs (val a * val b).toNat))) := by
  refine Spc.start Tryd.func45 rfl (h := fun hs R hR => ?_)
  unfold Tryd.f45
  simp only [entryE, PA.av]
  refine walk (hQ := ?_)
  have eL : ((a.length : Int) + b.length + 1).toNat = a.length + b.length + 1 := by omega
  rw [eL]
  refine Lp.intro2 (fun (i : Nat) (out : List Int) => ⟨[(0, vP (slc eI a)), (1, vP (slc eI b)), (5, .one (.own 0 1 (a.length + b.length + 1))), (6, vI i)], [(0, (.pu 3 (out.flatMap eI), false))], 1⟩)
    (fun i out => Outer a b out (a.length + b.length + 1) i ∧ i ≤ a.length) (fun i _ => a.length - i) 0 _ ⟨Outer.start a b _, Nat.zero_le _⟩ (h0 := le_auto) (hr := fun i out0 K ⟨hO, hi⟩ hK => ?_)
  have hlen := hO.len
  have hx : 0 ≤ a.getD i 0 ∧ a.getD i 0 < 10000 := dig_rd ha i
  refine walk (hQ := ?_)
  refine W_if (ht := fun h1 => ?_) (hf := fun h1 => ?_)
  · refine walk (hQ := ?_)
    refine Lp.intro3 (fun (j : Nat) (out : List Int) (c : Int) => ⟨[(0, vP (slc eI a)), (1, vP (slc eI b)), (5, .one (.own 0 1 (a.length + b.length + 1))), (6, vI i), (7, vI c), (8, vI j)], [(0, (.pu 3 (out.flatMap eI), false))], 1⟩)
      (fun j out c => (j ≤ b.length ∧ Inner a b out0 out i j c) ∨ (j = b.length + 1 ∧ c = 0 ∧ Outer a b out (a.length + b.length + 1) (i + 1))) (fun j _ _ => b.length + 1 - j) 0 _ 0 (.inl ⟨Nat.zero_le _, Inner.start hO.dig hO.top⟩) (h0 := le_auto) (hr := fun j out c K' hI hK' => ?_)
    have hj : j ≤ b.length + 1 := by rcases hI with h | h <;> omega
    have hlen' : out.length = a.length + b.length + 1 := by
      rcases hI with h | h
      · rw [h.2.len, hlen]
      · exact h.2.2.len
    have hc0 : 0 ≤ c := by
      rcases hI with h | h
      · exact h.2.c0
      · omega
    have hc1 : c < 10000 := by
      rcases hI with h | h
      · exact h.2.c1
      · omega
    have hd : Dig out := by
      rcases hI with h | h
      · exact h.2.dig
      · exact h.2.2.dig
    have hy : 0 ≤ b.getD j 0 ∧ b.getD j 0 < 10000 := dig_rd hb j
    have ho : 0 ≤ out.getD (i + j) 0 ∧ out.getD (i + j) 0 < 10000 := dig_rd hd (i + j : Nat)
    have hxy := mul_le_ hx.1 hx.2 hy.1 hy.2
    refine walk (hQ := ?_)
    refine R_g_if (h1 := fun h2 => ?_) (h2 := fun h2 => ?_)
    case' refine_1 =>
      simp only [Bool.false_eq_true, if_false] at h2
      refine walk (hQ := ?_)
      refine W_if (ht := fun h3 => ?_) (hf := fun h3 => ?_)
      case' refine_1 => have go : j < b.length ∨ j = b.length ∧ 0 < c := by rcases hI with h | h <;> omega
      case' refine_2 =>
        have hO' : Outer a b out (a.length + b.length + 1) (i + 1) := by
          rcases hI with h | h
          · obtain rfl : j = b.length := by omega
            obtain rfl : c = 0 := by omega
            have h4 := hO.next h.2 (by omega) (by omega)
            have h5 : rd out (i + b.length : Nat) = 0 := h.2.top (i + b.length) (Nat.le_refl _)
            have e6 : out.set (i + b.length) 0 = out := by
              apply List.ext_getElem
              · rw [List.length_set]
              · intro p hp hq
                rw [List.getElem_set]
                split
                · rename_i hpe
                  subst hpe
                  rw [← rd_at out _ hq, h5]
                · rfl
            rw [e6] at h4
            exact h4
          · exact h.2.2
        refine walk (hQ := ?_)
        exact hK _ (i + 1) _ ⟨hO', by omega⟩ (by omega) le_auto
    case' refine_2 =>
      simp only [Bool.false_eq_true, if_false] at h2
      have go : j < b.length ∨ j = b.length ∧ 0 < c := by omega
    all_goals
      refine walk (hQ := ?_)
      refine R_call (r_digit b j) (hK := ?_)
      refine walk (hQ := ?_)
      have e : out.getD (i + j) 0 + a.getD i 0 * b.getD j 0 + c = c + (out.getD (i + j) 0 + a.getD i 0 * b.getD j 0) := by omega
      rw [e]
      refine hK' _ (j + 1) (out.set (i + j) ((c + (out.getD (i + j) 0 + a.getD i 0 * b.getD j 0)) % 10000)) ((c + (out.getD (i + j) 0 + a.getD i 0 * b.getD j 0)) / 10000) ?_ (by omega) le_auto
      rcases go with g | ⟨g, gc⟩
      · have hI' : Inner a b out0 out i j c := by
          rcases hI with h | h
          · exact h.2
          · omega
        refine .inl ⟨by omega, hI'.next (by omega) (by omega) (by omega) (by omega) (by omega) (by omega) ?_⟩
        exact (Int.mul_ediv_add_emod _ 10000).symm
      · subst g
        have hI' : Inner a b out0 out i b.length c := by
          rcases hI with h | h
          · exact h.2
          · omega
        have z1 : out.getD (i + b.length) 0 = 0 := hI'.top (i + b.length) (Nat.le_refl _)
        have z2 : b.getD b.length 0 = 0 := rd_out b b.length (Nat.le_refl _)
        rw [z1, z2, Int.mul_zero, Int.add_zero, Int.add_zero, Int.emod_eq_of_lt hc0 hc1, Int.ediv_eq_zero_of_lt hc0 hc1]
        exact .inr ⟨rfl, rfl, hO.next hI' (by omega) (by omega)⟩
  · obtain rfl : i = a.length := by omega
    refine walk (hQ := ?_)
    refine R_callF (r_trim out0) (hK := ?_)
    refine walk (hQ := ?_)
    refine hR _ (ret1 (hp := ?_))
    rw [hO.done]
end Go.VS.YtlogclmmeikbpaaDoor


namespace Go.VS.YtlogclmmeikbpaaDoor
open Go Go.VL Go.VN Go.RowKit Go.Proofs
set_option maxRecDepth 100000
set_option linter.unusedVariables false

theorem r_Mul (a b : List Int) : Spc X 16 [nt a, nt b] (nr (mulR a b)) := by
  refine Spc.start Tryd.func16 rfl (h := fun hs R hR => ?_)
  unfold Tryd.f16
  simp only [entryE, PA.av, List.map_cons, List.map_nil]
  refine walk (hQ := ?_)
  have va := r_Valid a
  have vb := r_Valid b
  unfold mulR at hR
  cases ha : validB a with
  | false =>
    rw [ha] at va
    rw [ha, if_neg (by simp)] at hR
    refine R_call va (hK := ?_)
    refine walk (hQ := ?_)
    exact hR _ (ret2 (hp := rfl))
  | true =>
    rw [ha] at va
    refine R_call va (hK := ?_)
    refine walk (hQ := ?_)
    cases hb : validB b with
    | false =>
      rw [hb] at vb
      rw [hb, if_neg (by simp)] at hR
      refine R_call vb (hK := ?_)
      refine walk (hQ := ?_)
      exact hR _ (ret2 (hp := rfl))
    | true =>
      rw [hb] at vb
      rw [ha, hb, if_pos (by simp)] at hR
      obtain ⟨ea, la, da⟩ := valid_digs ha
      obtain ⟨eb, lb, db⟩ := valid_digs hb
      refine R_call vb (hK := ?_)
      refine walk (hQ := ?_)
      refine R_call (r_times a b da db (by omega) (by omega)) (hK := ?_)
      refine walk (hQ := ?_)
      refine R_call (r_within _) (hK := ?_)
      refine walk (hQ := ?_)
      exact hR _ (ret2 (hp := rfl))
theorem r_Add (a b : List Int) : Spc X 37 [nt a, nt b] (nr (addR a b)) := by
  refine Spc.start Tryd.func37 rfl (h := fun hs R hR => ?_)
  unfold Tryd.f37
  simp only [entryE, PA.av, List.map_cons, List.map_nil]
  refine walk (hQ := ?_)
  have va := r_Valid a
  have vb := r_Valid b
  unfold addR at hR
  cases ha : validB a with
  | false =>
    rw [ha] at va
    rw [ha, if_neg (by simp)] at hR
    refine R_call va (hK := ?_)
    refine walk (hQ := ?_)
    exact hR _ (ret2 (hp := rfl))
  | true =>
    rw [ha] at va
    refine R_call va (hK := ?_)
    refine walk (hQ := ?_)
    cases hb : validB b with
    | false =>
      rw [hb] at vb
      rw [hb, if_neg (by simp)] at hR
      refine R_call vb (hK := ?_)
      refine walk (hQ := ?_)
      exact hR _ (ret2 (hp := rfl))
    | true =>
      rw [hb] at vb
      rw [ha, hb, if_pos (by simp)] at hR
      obtain ⟨ea, la, da⟩ := valid_digs ha
      obtain ⟨eb, lb, db⟩ := valid_digs hb
      refine R_call vb (hK := ?_)
      refine walk (hQ := ?_)
      have es : (val a + val b).toNat = (val a).toNat + (val b).toNat := by
        have := val_nonneg da
        have := val_nonneg db
        omega
      refine R_call (r_sum a b da db (by omega) (by omega)) (hK := ?_)
      rw [es]
      refine walk (hQ := ?_)
      refine R_call (r_within _) (hK := ?_)
      refine walk (hQ := ?_)
      exact hR _ (ret2 (hp := rfl))
theorem r_Sub (a b : List Int) : Spc X 39 [nt a, nt b] (nr (subR a b)) := by
  refine Spc.start Tryd.func39 rfl (h := fun hs R hR => ?_)
  unfold Tryd.f39
  simp only [entryE, PA.av, List.map_cons, List.map_nil]
  refine walk (hQ := ?_)
  have va := r_Valid a
  have vb := r_Valid b
  unfold subR at hR
  cases ha : validB a with
  | false =>
    rw [ha] at va
    rw [ha, if_neg (by simp)] at hR
    refine R_call va (hK := ?_)
    refine walk (hQ := ?_)
    exact hR _ (ret2 (hp := rfl))
  | true =>
    rw [ha] at va
    refine R_call va (hK := ?_)
    refine walk (hQ := ?_)
    cases hb : validB b with
    | false =>
      rw [hb] at vb
      rw [hb, if_neg (by simp)] at hR
      refine R_call vb (hK := ?_)
      refine walk (hQ := ?_)
      exact hR _ (ret2 (hp := rfl))
    | true =>
      rw [hb] at vb
      rw [ha, hb, if_pos (by simp)] at hR
      obtain ⟨ea, la, da⟩ := valid_digs ha
      obtain ⟨eb, lb, db⟩ := valid_digs hb
      refine R_call vb (hK := ?_)
      refine walk (hQ := ?_)
      generalize hm : (val a).toNat = m at *
      generalize hn : (val b).toNat = n at *
      subst ea eb
      refine R_call (r_Cmp _ _) (hK := ?_)
      rw [cmp_digs]
      refine walk (hQ := ?_)
      have hlt : sgn (m : Int) n < 0 ↔ m < n := by
        unfold sgn
        by_cases h1 : (m : Int) < n
        · rw [if_pos h1]; omega
        · rw [if_neg h1]; split <;> omega
      refine W_if (ht := fun h0 => ?_) (hf := fun h0 => ?_)
      · rw [if_pos (hlt.1 h0)] at hR
        refine walk (hQ := ?_)
        exact hR _ (ret2 (hp := rfl))
      · have h1 : ¬ m < n := fun h => h0 (hlt.2 h)
        rw [if_neg h1] at hR
        refine walk (hQ := ?_)
        refine R_call (r_less m n (by omega) (by omega)) (hK := ?_)
        refine walk (hQ := ?_)
        exact hR _ (ret2 (hp := rfl))
end Go.VS.YtlogclmmeikbpaaDoor


namespace Go.VS.YtlogclmmeikbpaaDoor
open Go Go.VL Go.VN Go.RowKit Go.Proofs
set_option maxRecDepth 100000
set_option linter.unusedVariables false

theorem r_times1 (n M : Nat) (hM : M < 10000) (ln : (digs n).length ≤ 1000000) : Spc X 45 [.one (slc eI (digs n)), .one (slc eI [(M : Int)])] (.one (slc eI (digs (n * M)))) := by
  have h := r_times (digs n) [(M : Int)] (dig_digs n) (dig1 M hM) ln (by simp)
  have e : (val (digs n) * val [(M : Int)]).toNat = n * M := by rw [val_digs, val1, ← Int.natCast_mul]; rfl
  rw [e] at h
  exact h
theorem r_divide (m n : Nat) (hn : 0 < n) (lm : (digs m).length ≤ 100000) (ln : (digs n).length ≤ 100000) : Spc X 62 [.one (slc eI (digs m)), .one (slc eI (digs n))] (.tup [(false, [slc eI (digs (m / n))]), (false, [slc eI (digs (m % n))])]) := by
  refine Spc.start Tryd.func62 rfl (h := fun hs R hR => ?_)
  unfold Tryd.f62
  simp only [entryE, PA.av]
  have ha := dig_digs m
  have ev : m = (val (digs m)).toNat := by rw [val_digs]; rfl
  have hb := dig_digs n
  refine walk (hQ := ?_)
  rw [ev] at hR
  clear ev hs
  generalize digs m = a at *
  refine Lp.intro2 (fun (i : Nat) (q : List Int) => ⟨[(0, vP (slc eI a)), (1, vP (slc eI (digs n))), (6, .one (.own 0 1 a.length)), (7, vP (slc eI (digs (top a i % n)))), (8, vI ((i : Int) - 1))], [(0, (.pu 3 (q.flatMap eI), false))], 1⟩)
    (fun i q => i ≤ a.length ∧ q.length = a.length ∧ Dig q ∧ (∀ p : Nat, p < i → rd q p = 0) ∧ val q = 10000 ^ i * ((top a i / n : Nat) : Int)) (fun i _ => i) a.length (List.replicate a.length 0)
    ⟨Nat.le_refl _, by simp, dig_zeros _, fun p _ => rd_zeros _ p, by rw [top_len, val_zeros]; simp⟩ (h0 := le_auto (he := ⟨⟨_, rfl, avLe_refl _⟩, ⟨_, rfl, avLe_refl _⟩, ⟨_, rfl, avLe_refl _⟩, ⟨_, rfl, ?_⟩, ⟨_, rfl, avLe_refl _⟩, trivial⟩)) (hr := fun i q K ⟨hi, hq, hd, hz, hv⟩ hK => ?_)
  · rw [top_len, Nat.zero_mod, digs_zero]; exact avLe_nil
  refine walk (hQ := ?_)
  refine W_if (ht := fun h1 => ?_) (hf := fun h1 => ?_)
  · obtain ⟨j, rfl⟩ : ∃ j, i = j + 1 := ⟨i - 1, by omega⟩
    have e0 : ((j + 1 : Nat) : Int) - 1 = (j : Int) := by omega
    rw [e0]
    have hx : 0 ≤ a.getD j 0 ∧ a.getD j 0 < 10000 := dig_rd ha j
    obtain ⟨d, hdx⟩ := Int.eq_ofNat_of_zero_le hx.1
    have hd4 : d < 10000 := by omega
    have ht := top_step ha (i := j) (by omega)
    have hrd : rd a j = (d : Int) := hdx
    rw [hrd, Int.toNat_natCast] at ht
    obtain ⟨s1, s2⟩ := div_step n (top a (j + 1)) d hn
    have s3 := div_small n (top a (j + 1)) d hn hd4
    rw [← ht] at s1 s2
    have hRl : (digs (top a (j + 1) % n)).length ≤ 100000 := Nat.le_trans (len_of_lt (Nat.mod_le _ _)) (Nat.le_trans (top_digs_len ha _) lm)
    refine walk (hQ := ?_)
    have eR : tr ([a.getD j 0] ++ digs (top a (j + 1) % n)) = digs (d + 10000 * (top a (j + 1) % n)) := by rw [hdx]; exact digs_app d _ hd4
    have hR1 : (digs (d + 10000 * (top a (j + 1) % n))).length ≤ 100001 := by
      rw [← eR]
      have := len_tr ([a.getD j 0] ++ digs (top a (j + 1) % n))
      rw [List.length_append, List.length_singleton] at this
      omega
    refine R_callF (r_trim _) (hK := ?_)
    rw [eR]
    generalize hRR : d + 10000 * (top a (j + 1) % n) = T at *
    refine walk (hQ := ?_)
    refine Lp.intro2 (fun (lo hi : Nat) => ⟨[(0, vP (slc eI a)), (1, vP (slc eI (digs n))), (6, .one (.own 0 1 a.length)), (7, vP (slc eI (digs T))), (8, vI j), (9, vI lo), (10, vI hi)], [(0, (.pu 3 (q.flatMap eI), false))], 1⟩)
      (fun lo hi => lo ≤ hi ∧ hi ≤ 9999 ∧ n * lo ≤ T ∧ T < n * (hi + 1)) (fun lo hi => hi - lo) 0 9999 ⟨by omega, by omega, by omega, ?_⟩ (h0 := le_auto) (hr := fun lo hi K' ⟨g1, g2, g3, g4⟩ hK' => ?_)
    · have := (Nat.div_lt_iff_lt_mul hn).1 s3
      rw [Nat.mul_comm]
      exact this
    refine walk (hQ := ?_)
    refine W_if (ht := fun h2 => ?_) (hf := fun h2 => ?_)
    · have eM : ((lo : Int) + hi + 1) / 2 = (((lo + hi + 1) / 2 : Nat) : Int) := by omega
      have hM1 : (lo + hi + 1) / 2 < 10000 := by omega
      refine walk (hQ := ?_)
      rw [eM]
      generalize hM : (lo + hi + 1) / 2 = M at *
      refine R_callF (r_times1 n M hM1 (by omega)) (hK := ?_)
      refine walk (hQ := ?_)
      refine R_call (r_cmp _ _) (hK := ?_)
      refine walk (hQ := ?_)
      rw [cmp_digs]
      refine W_if (ht := fun h3 => ?_) (hf := fun h3 => ?_)
      · have hc := (sgn_le _ _).1 h3
        refine walk (hQ := ?_)
        exact hK' _ M hi ⟨by omega, g2, hc, g4⟩ (by omega) le_auto
      · have hc : ¬ n * M ≤ T := fun h => h3 ((sgn_le _ _).2 h)
        refine walk (hQ := ?_)
        exact hK' _ lo (M - 1) ⟨by omega, by omega, g3, by rw [show M - 1 + 1 = M by omega]; omega⟩ (by omega) le_auto
    · obtain rfl : lo = hi := by omega
      have hdone : lo = T / n := by
        symm
        apply Nat.div_eq_of_lt_le
        · rw [Nat.mul_comm]; exact g3
        · rw [Nat.mul_comm]; exact g4
      have hle : n * lo ≤ T := by rw [hdone]; exact Nat.mul_div_le T n
      have hm : T - n * lo = T % n := by
        have := Nat.div_add_mod T n
        rw [hdone]
        omega
      have hP : j ≤ a.length ∧ (q.set j (lo : Int)).length = a.length ∧ Dig (q.set j (lo : Int)) ∧ (∀ p : Nat, p < j → rd (q.set j (lo : Int)) p = 0) ∧ val (q.set j (lo : Int)) = 10000 ^ j * ((top a j / n : Nat) : Int) := by
        refine ⟨by omega, by rw [List.length_set]; exact hq, hd.set _ (by omega) (by omega), fun p hp => ?_, ?_⟩
        · rw [rd_set _ _ _ _ (by omega), if_neg (by omega)]; exact hz p (by omega)
        · rw [half_val (by omega) (hz j (by omega)) rfl hv, s1, hdone]
      have hqa : q.length ≤ 100000 := by omega
      refine walk (hQ := ?_)
      refine R_callF (r_times1 n lo (by omega) (by omega)) (hK := ?_)
      refine walk (hQ := ?_)
      refine R_call (r_less T (n * lo) hle (by omega)) (hK := ?_)
      rw [hm, ← s2]
      refine walk (hQ := ?_)
      exact hK _ j _ hP (by omega) le_auto
  · obtain rfl : i = 0 := by omega
    refine walk (hQ := ?_)
    refine R_callF (r_trim q) (hK := ?_)
    refine walk (hQ := ?_)
    refine hR _ (ret2 (hp := ?_))
    rw [tr_digs hd, hv, top_zero, Int.pow_zero, Int.one_mul]; rfl
theorem r_Div (a b : List Int) : Spc X 36 [nt a, nt b] (nr2 (divR a b)) := by
  refine Spc.start Tryd.func36 rfl (h := fun hs R hR => ?_)
  unfold Tryd.f36
  simp only [entryE, PA.av, List.map_cons, List.map_nil]
  refine walk (hQ := ?_)
  have va := r_Valid a
  have vb := r_Valid b
  unfold divR at hR
  cases ha : validB a with
  | false =>
    rw [ha] at va
    rw [ha, if_neg (by simp)] at hR
    refine R_call va (hK := ?_)
    refine walk (hQ := ?_)
    exact hR _ (ret3 (hp := rfl))
  | true =>
    rw [ha] at va
    refine R_call va (hK := ?_)
    refine walk (hQ := ?_)
    cases hb : validB b with
    | false =>
      rw [hb] at vb
      rw [hb, if_neg (by simp)] at hR
      refine R_call vb (hK := ?_)
      refine walk (hQ := ?_)
      exact hR _ (ret3 (hp := rfl))
    | true =>
      rw [hb] at vb
      rw [ha, hb, if_pos (by simp)] at hR
      obtain ⟨ea, la, da⟩ := valid_digs ha
      obtain ⟨eb, lb, db⟩ := valid_digs hb
      refine R_call vb (hK := ?_)
      refine walk (hQ := ?_)
      generalize hm : (val a).toNat = m at *
      generalize hn : (val b).toNat = n at *
      subst ea eb
      have hz := len_zero n
      refine W_if (ht := fun h0 => ?_) (hf := fun h0 => ?_)
      · rw [if_pos (hz.1 h0)] at hR
        refine walk (hQ := ?_)
        exact hR _ (ret3 (hp := rfl))
      · have h1 : ¬ n = 0 := fun h => h0 (hz.2 h)
        rw [if_neg h1] at hR
        refine walk (hQ := ?_)
        refine R_call (r_divide m n (by omega) (by omega) (by omega)) (hK := ?_)
        refine walk (hQ := ?_)
        exact hR _ (ret3 (hp := rfl))
end Go.VS.YtlogclmmeikbpaaDoor


namespace Go.VS.YtlogclmmeikbpaaDoor
open Go Go.VL Go.VN Go.RowKit Go.Proofs
set_option maxRecDepth 100000
set_option linter.unusedVariables false

theorem r_even (n : Nat) : Spc X 58 [.one (slc eI (digs n))] (.one (.bool (decide (n % 2 = 0)))) := by
  refine Spc.start Tryd.func58 rfl (h := fun hs R hR => ?_)
  unfold Tryd.f58
  simp only [entryE, PA.av]
  have hz := len_zero n
  have hx : 0 ≤ (digs n).getD 0 0 ∧ (digs n).getD 0 0 < 10000 := dig_rd (dig_digs n) 0
  have hx2 : 0 ≤ (digs n).getD (Int.toNat 0) 0 := hx.1
  refine walk (hQ := ?_)
  refine R_g_if (h1 := fun h0 => ?_) (h2 := fun h0 => ?_)
  · simp only [Bool.false_eq_true, if_false] at h0
    have hn : ¬ n = 0 := fun h => h0 (hz.2 h)
    have e0 : (digs n).getD 0 0 = ((n % 10000 : Nat) : Int) := by rw [digs_pos n hn]; rfl
    refine walk (hQ := ?_)
    refine hR _ (ret1 (hp := ?_))
    have e1 : (decide ((digs n).getD (Int.toNat 0) 0 % 2 = 0)) = decide (n % 2 = 0) := by
      rw [show Int.toNat 0 = 0 from rfl, e0]
      congr 1
      apply propext
      omega
    rw [e1]
  · simp only [Bool.false_eq_true, if_false] at h0
    have hn : n = 0 := hz.1 h0
    subst hn
    refine walk (hQ := ?_)
    exact hR _ (ret1 (hp := rfl))
end Go.VS.YtlogclmmeikbpaaDoor


namespace Go.VS.YtlogclmmeikbpaaDoor
open Go Go.VL Go.VN Go.RowKit Go.Proofs
set_option maxRecDepth 100000
set_option linter.unusedVariables false

theorem r_half (n : Nat) (ln : (digs n).length ≤ 100000) : Spc X 59 [.one (slc eI (digs n))] (.one (slc eI (digs (n / 2)))) := by
  refine Spc.start Tryd.func59 rfl (h := fun hs R hR => ?_)
  unfold Tryd.f59
  simp only [entryE, PA.av]
  have ha := dig_digs n
  have ev : n = (val (digs n)).toNat := by rw [val_digs]; rfl
  refine walk (hQ := ?_)
  rw [ev] at hR
  clear ev hs
  generalize digs n = a at *
  refine Lp.intro2 (fun (i : Nat) (q : List Int) => ⟨[(0, vP (slc eI a)), (3, .one (.own 0 1 a.length)), (4, vI ((top a i % 2 : Nat) : Int)), (5, vI ((i : Int) - 1))], [(0, (.pu 3 (q.flatMap eI), false))], 1⟩)
    (fun i q => i ≤ a.length ∧ q.length = a.length ∧ Dig q ∧ (∀ p : Nat, p < i → rd q p = 0) ∧ val q = 10000 ^ i * ((top a i / 2 : Nat) : Int)) (fun i _ => i) a.length (List.replicate a.length 0)
    ⟨Nat.le_refl _, by simp, dig_zeros _, fun p _ => rd_zeros _ p, by rw [top_len, val_zeros]; simp⟩ (h0 := le_auto (he := ⟨⟨_, rfl, avLe_refl _⟩, ⟨_, rfl, avLe_refl _⟩, ⟨_, rfl, avLe_i (by rw [top_len]; rfl)⟩, ⟨_, rfl, avLe_refl _⟩, trivial⟩)) (hr := fun i q K ⟨hi, hq, hd, hz, hv⟩ hK => ?_)
  refine walk (hQ := ?_)
  refine W_if (ht := fun h1 => ?_) (hf := fun h1 => ?_)
  · obtain ⟨j, rfl⟩ : ∃ j, i = j + 1 := ⟨i - 1, by omega⟩
    have e0 : ((j + 1 : Nat) : Int) - 1 = (j : Int) := by omega
    rw [e0]
    have hx : 0 ≤ a.getD j 0 ∧ a.getD j 0 < 10000 := dig_rd ha j
    obtain ⟨d, hdx⟩ := Int.eq_ofNat_of_zero_le hx.1
    have hd4 : d < 10000 := by omega
    have ht := top_step ha (i := j) (by omega)
    have hrd : rd a j = (d : Int) := hdx
    rw [hrd, Int.toNat_natCast] at ht
    have hT : top a j / 2 = 10000 * (top a (j + 1) / 2) + (d + 10000 * (top a (j + 1) % 2)) / 2 := by omega
    have hM : top a j % 2 = (d + 10000 * (top a (j + 1) % 2)) % 2 := by omega
    generalize hc : top a (j + 1) % 2 = c at *
    have hc2 : c ≤ 1 := by omega
    refine walk (hQ := ?_)
    have e1 : ((c : Int) * 10000 + a.getD j 0) / 2 = (((d + 10000 * c) / 2 : Nat) : Int) := by omega
    have e2 : ((c : Int) * 10000 + a.getD j 0) % 2 = ((top a j % 2 : Nat) : Int) := by omega
    rw [e1, e2]
    have hdd : Dig (q.set j (((d + 10000 * c) / 2 : Nat) : Int)) := hd.set _ (by omega) (by omega)
    refine hK _ j _ ⟨by omega, by rw [List.length_set]; exact hq, hdd, fun p hp => ?_, ?_⟩ (by omega) le_auto
    · rw [rd_set _ _ _ _ (by omega), if_neg (by omega)]; exact hz p (by omega)
    · rw [half_val (by omega) (hz j (by omega)) rfl hv, hT]
  · obtain rfl : i = 0 := by omega
    refine walk (hQ := ?_)
    refine R_callF (r_trim q) (hK := ?_)
    refine walk (hQ := ?_)
    refine hR _ (ret1 (hp := ?_))
    rw [tr_digs hd, hv, top_zero, Int.pow_zero, Int.one_mul]; rfl
end Go.VS.YtlogclmmeikbpaaDoor


namespace Go.VS.YtlogclmmeikbpaaDoor
open Go Go.VL Go.VN Go.RowKit Go.Proofs
set_option maxRecDepth 100000
set_option linter.unusedVariables false

theorem r_evenT {x : Nat} (h : x % 2 = 0) : Spc X 58 [.one (slc eI (digs x))] (.one (.bool true)) := by
  have := r_even x
  rwa [decide_eq_true h] at this
theorem r_evenF {x : Nat} (h : ¬ x % 2 = 0) : Spc X 58 [.one (slc eI (digs x))] (.one (.bool false)) := by
  have := r_even x
  rwa [decide_eq_false h] at this
theorem r_double (x : Nat) (h : (digs x).length ≤ 1000000) : Spc X 61 [.one (slc eI (digs x)), .one (slc eI (digs x))] (.one (slc eI (digs (x + x)))) := by
  have := r_sum (digs x) (digs x) (dig_digs x) (dig_digs x) h h
  rw [val_digs] at this
  have e : ((x : Int) + (x : Int)).toNat = x + x := by omega
  rwa [e] at this
theorem r_Gcd (a b : List Int) : Spc X 30 [nt a, nt b] (nr (gcdR a b)) := by
  refine Spc.start Tryd.func30 rfl (h := fun hs R hR => ?_)
  unfold Tryd.f30
  simp only [entryE, PA.av, List.map_cons, List.map_nil]
  refine walk (hQ := ?_)
  have va := r_Valid a
  have vb := r_Valid b
  unfold gcdR at hR
  cases ha : validB a with
  | false =>
    rw [ha] at va
    rw [ha, if_neg (by simp)] at hR
    refine R_call va (hK := ?_)
    refine walk (hQ := ?_)
    exact hR _ (ret2 (hp := rfl))
  | true =>
    rw [ha] at va
    refine R_call va (hK := ?_)
    refine walk (hQ := ?_)
    cases hb : validB b with
    | false =>
      rw [hb] at vb
      rw [hb, if_neg (by simp)] at hR
      refine R_call vb (hK := ?_)
      refine walk (hQ := ?_)
      exact hR _ (ret2 (hp := rfl))
    | true =>
      rw [hb] at vb
      rw [ha, hb, if_pos (by simp)] at hR
      obtain ⟨ea, la, da⟩ := valid_digs ha
      obtain ⟨eb, lb, db⟩ := valid_digs hb
      refine R_call vb (hK := ?_)
      refine walk (hQ := ?_)
      generalize hm : (val a).toNat = m at *
      generalize hn : (val b).toNat = n at *
      subst ea eb
      have hz := len_zero m
      refine W_if (ht := fun h0 => ?_) (hf := fun h0 => ?_)
      · have h1 : m = 0 := hz.1 h0
        subst h1
        rw [Nat.gcd_zero_left] at hR
        refine walk (hQ := ?_)
        exact hR _ (ret2 (hp := rfl))
      · have hm0 : 0 < m := by
          rcases Nat.eq_zero_or_pos m with h | h
          · exact absurd (hz.2 h) h0
          · exact h
        refine walk (hQ := ?_)
        have lB : (digs (m + n)).length ≤ 400 := by
          have := add_len' m n 200 la lb
          omega
        refine Lp.intro3 (fun (x y t : Nat) => ⟨[(4, .one (.ptr 2 0)), (6, vP (slc eI (digs x))), (7, vP (slc eI (digs y))), (8, vI t)], [(2, (.mx [.pv .nil], false))], 3⟩)
          (fun x y t => 0 < x ∧ x * 2 ^ t ≤ m + n ∧ y * 2 ^ t ≤ m + n ∧ Nat.gcd x y * 2 ^ t = Nat.gcd m n) (fun x y _ => x + y) m n 0 ⟨hm0, by omega, by omega, by omega⟩ (h0 := le_auto) (hr := fun x y t K ⟨hx, hxB, hyB, hg⟩ hK => ?_)
        have hp : 0 < 2 ^ t := Nat.pow_pos (by decide)
        have lx := len_of_lt (Nat.le_trans (Nat.le_mul_of_pos_right x hp) hxB)
        have ly := len_of_lt (Nat.le_trans (Nat.le_mul_of_pos_right y hp) hyB)
        have ht : t ≤ 6000 := by
          rcases Nat.lt_or_ge 6000 t with h | h
          · exact (big_pow (m + n) t lB h (Nat.le_trans (Nat.le_mul_of_pos_left _ hx) hxB)).elim
          · exact h
        have hzy := len_zero y
        refine walk (hQ := ?_)
        refine W_if (ht := fun h0 => ?_) (hf := fun h0 => ?_)
        · have hy : 0 < y := by
            rcases Nat.eq_zero_or_pos y with h | h
            · have := hzy.2 h; omega
            · exact h
          refine walk (hQ := ?_)
          by_cases ex : x % 2 = 0
          · refine R_call (r_evenT ex) (hK := ?_)
            refine walk (hQ := ?_)
            by_cases ey : y % 2 = 0
            · refine R_call (r_evenT ey) (hK := ?_)
              refine walk (hQ := ?_)
              refine R_call (r_half x (by omega)) (hK := ?_)
              refine walk (hQ := ?_)
              refine R_call (r_half y (by omega)) (hK := ?_)
              refine walk (hQ := ?_)
              have e2 : ∀ z, z % 2 = 0 → z / 2 * 2 ^ (t + 1) = z * 2 ^ t := fun z hz => by
                obtain ⟨u, rfl⟩ : ∃ u, z = 2 * u := ⟨z / 2, by omega⟩
                rw [Nat.mul_div_cancel_left _ (by decide), Nat.pow_succ]
                grind
              refine hK _ (x / 2) (y / 2) (t + 1) ⟨by omega, by rw [e2 x ex]; exact hxB, by rw [e2 y ey]; exact hyB, ?_⟩ (by omega) le_auto
              rw [← hg, gcd_two ex ey, Nat.pow_succ]
              grind
            · refine R_call (r_evenF ey) (hK := ?_)
              refine walk (hQ := ?_)
              refine R_call (r_evenT ex) (hK := ?_)
              refine walk (hQ := ?_)
              refine R_call (r_half x (by omega)) (hK := ?_)
              refine walk (hQ := ?_)
              refine hK _ (x / 2) y t ⟨by omega, Nat.le_trans (Nat.mul_le_mul_right _ (Nat.div_le_self x 2)) hxB, hyB, ?_⟩ (by omega) le_auto
              rw [← hg, gcd_half_l ex ey]
          · refine R_call (r_evenF ex) (hK := ?_)
            refine walk (hQ := ?_)
            refine R_call (r_evenF ex) (hK := ?_)
            refine walk (hQ := ?_)
            by_cases ey : y % 2 = 0
            · refine R_call (r_evenT ey) (hK := ?_)
              refine walk (hQ := ?_)
              refine R_call (r_half y (by omega)) (hK := ?_)
              refine walk (hQ := ?_)
              refine hK _ x (y / 2) t ⟨hx, hxB, Nat.le_trans (Nat.mul_le_mul_right _ (Nat.div_le_self y 2)) hyB, ?_⟩ (by omega) le_auto
              rw [← hg, gcd_half_r ex ey]
            · refine R_call (r_evenF ey) (hK := ?_)
              refine walk (hQ := ?_)
              refine R_call (r_cmp _ _) (hK := ?_)
              rw [cmp_digs]
              refine walk (hQ := ?_)
              have hsg := sgn_pos x y
              refine W_if (ht := fun h1 => ?_) (hf := fun h1 => ?_)
              · have hlt : y < x := hsg h1
                refine walk (hQ := ?_)
                refine R_call (r_less x y (by omega) (by omega)) (hK := ?_)
                refine walk (hQ := ?_)
                refine hK _ y (x - y) t ⟨by omega, hyB, Nat.le_trans (Nat.mul_le_mul_right _ (Nat.sub_le x y)) hxB, ?_⟩ (by omega) le_auto
                rw [← hg, gcd_sub_ (show y ≤ x by omega)]
              · have hle : ¬ y < x := fun h => h1 (by unfold sgn; rw [if_neg (by omega), if_pos (by omega)]; decide)
                refine walk (hQ := ?_)
                refine R_call (r_less y x (by omega) (by omega)) (hK := ?_)
                refine walk (hQ := ?_)
                refine hK _ x (y - x) t ⟨hx, hxB, Nat.le_trans (Nat.mul_le_mul_right _ (Nat.sub_le y x)) hyB, ?_⟩ (by omega) le_auto
                rw [← hg, Nat.gcd_comm x y, gcd_sub_ (show x ≤ y by omega)]
        · have hy : y = 0 := hzy.1 (by omega)
          subst hy
          rw [Nat.gcd_zero_right] at hg
          refine walk (hQ := ?_)
          refine Lp.intro2 (fun (i z : Nat) => ⟨[(4, .one (.ptr 2 0)), (8, vI t), (9, vP (slc eI (digs z))), (10, vI i)], [(2, (.mx [.pv .nil], false))], 4⟩)
            (fun i z => i ≤ t ∧ z * 2 ^ (t - i) = Nat.gcd m n) (fun i _ => t - i) 0 x ⟨by omega, by rw [Nat.sub_zero]; exact hg⟩ (h0 := le_autoV) (hr := fun i z K' ⟨hi, hgz⟩ hK' => ?_)
          have hlz : (digs z).length ≤ 400 := by
            have h1 : z ≤ Nat.gcd m n := by rw [← hgz]; exact Nat.le_mul_of_pos_right _ (Nat.pow_pos (by decide))
            have h2 : Nat.gcd m n ≤ m + n := Nat.le_trans (Nat.gcd_le_left n hm0) (by omega)
            exact Nat.le_trans (len_of_lt (Nat.le_trans h1 h2)) lB
          refine walk (hQ := ?_)
          refine W_if (ht := fun h1 => ?_) (hf := fun h1 => ?_)
          · refine walk (hQ := ?_)
            refine R_call (r_double z (by omega)) (hK := ?_)
            refine walk (hQ := ?_)
            refine hK' _ (i + 1) (z + z) ⟨by omega, ?_⟩ (by omega) le_auto
            rw [← hgz, show t - i = (t - (i + 1)) + 1 by omega, Nat.pow_succ]
            grind
          · have hit : i = t := by omega
            subst hit
            rw [Nat.sub_self, Nat.pow_zero, Nat.mul_one] at hgz
            subst hgz
            refine walk (hQ := ?_)
            exact hR _ (ret2 (hp := rfl))
end Go.VS.YtlogclmmeikbpaaDoor


namespace Go.VS.YtlogclmmeikbpaaDoor
open Go Go.VL Go.VN Go.RowKit Go.Proofs
set_option maxRecDepth 100000
set_option linter.unusedVariables false

/-- A row of numbers. -/
def eN (l : List Int) : List PV := [slc eI l]
theorem r_Few (l : List (List Int)) (most : Int) (hl : l.length ≤ 1000) (hb : ∀ a ∈ l, a.length ≤ 1000000000000000) : Spc X 28 [.one (slc eN l), .one (.int .i64 most)] (.one (.bool (decide (((l.map fun a => (a.length : Int)).sum) ≤ most)))) := by
  refine Spc.start Tryd.func28 rfl (h := fun hs R hR => ?_)
  unfold Tryd.f28
  simp only [entryE, PA.av]
  refine walk (hQ := ?_)
  refine Lp.intro2 (fun (i : Nat) (n : Int) => ⟨[(0, vP (slc eN l)), (1, vP (.int .i64 most)), (5, vI n), (6, vI i)], [], 0⟩) (fun i n => i ≤ l.length ∧ n = ((l.take i).map fun a => (a.length : Int)).sum ∧ 0 ≤ n ∧ n ≤ i * 1000000000000000) (fun i _ => l.length - i) 0 0 ⟨Nat.zero_le _, by simp, by omega, by omega⟩ (h0 := le_auto) (hr := fun i n K ⟨hi, hn, n0, n1⟩ hK => ?_)
  refine walk (hQ := ?_)
  refine W_if (ht := fun h1 => ?_) (hf := fun h1 => ?_)
  · have hm : (l.getD i default).length ≤ 1000000000000000 := by
      rw [List.getD_eq_getElem?_getD, List.getElem?_eq_getElem (show i < l.length by omega)]
      exact hb _ (List.getElem_mem _)
    refine walk (hQ := ?_)
    refine hK _ (i + 1) (n + ((l.getD i default).length : Int)) ⟨by omega, ?_, by omega, by omega⟩ (by omega) le_auto
    have hil : i < l.length := by omega
    have e : l.getD i default = l[i] := by rw [List.getD_eq_getElem?_getD, List.getElem?_eq_getElem hil]; rfl
    rw [List.take_succ_eq_append_getElem hil, List.map_append, List.sum_append, ← hn, e]
    simp
  · obtain rfl : i = l.length := by omega
    rw [List.take_length] at hn
    refine walk (hQ := ?_)
    exact hR _ (ret1 (hp := by rw [hn]))
end Go.VS.YtlogclmmeikbpaaDoor


namespace Go.VN
open Go.RowKit
set_option linter.unusedVariables false
/-- The number of subsets with k of n elements. -/
def ch : Nat → Nat → Nat
  | _, 0 => 1
  | 0, _ + 1 => 0
  | n + 1, k + 1 => ch n k + ch n (k + 1)
theorem ch_zero (n : Nat) : ch n 0 = 1 := by cases n <;> rfl
theorem ch_big : ∀ (n k : Nat), n < k → ch n k = 0
  | _, 0, h => by omega
  | 0, k + 1, _ => rfl
  | n + 1, k + 1, h => by rw [ch, ch_big n k (by omega), ch_big n (k + 1) (by omega)]
theorem ch_self : ∀ n, ch n n = 1
  | 0 => rfl
  | n + 1 => by rw [ch, ch_self n, ch_big n (n + 1) (by omega)]
theorem ch_pos : ∀ (n k : Nat), k ≤ n → 0 < ch n k
  | n, 0, _ => by rw [ch_zero]; decide
  | 0, k + 1, h => by omega
  | n + 1, k + 1, h => by
    rw [ch]
    have := ch_pos n k (by omega)
    omega
/-- The step of a row: (k+1) C(n,k+1) = (n-k) C(n,k). -/
theorem ch_row : ∀ (n k : Nat), k ≤ n → (k + 1) * ch n (k + 1) = (n - k) * ch n k
  | n, 0, _ => by
    rw [ch_zero]
    induction n with
    | zero => rfl
    | succ n ih =>
      rw [ch, ch_zero]
      simp only [Nat.zero_add, Nat.one_mul, Nat.mul_one, Nat.sub_zero] at *
      omega
  | 0, k + 1, h => by omega
  | n + 1, k + 1, h => by
    have h1 := ch_row n k (by omega)
    rw [ch, ch]
    by_cases hk : k + 1 ≤ n
    · have h2 := ch_row n (k + 1) hk
      obtain ⟨d, rfl⟩ : ∃ d, n = k + 1 + d := ⟨n - (k + 1), by omega⟩
      rw [show k + 1 + d - k = d + 1 by omega] at h1
      rw [show k + 1 + d - (k + 1) = d by omega] at h2
      rw [show k + 1 + d + 1 - (k + 1) = d + 1 by omega]
      generalize ch (k + 1 + d) k = A at *
      generalize ch (k + 1 + d) (k + 1) = B at *
      generalize ch (k + 1 + d) (k + 1 + 1) = C at *
      grind
    · have : n = k := by omega
      subst this
      rw [ch_big n (n + 1) (by omega), ch_big n (n + 1 + 1) (by omega)]
      simp
/-- The diagonal's step: (k+1) C(n+1,k+1) = (n+1) C(n,k). -/
theorem ch_diag (n k : Nat) (h : k ≤ n) : (k + 1) * ch (n + 1) (k + 1) = (n + 1) * ch n k := by
  have h1 := ch_row n k h
  rw [ch, Nat.mul_add, h1, ← Nat.add_mul]
  congr 1
  omega
theorem ch_sym : ∀ (n k : Nat), k ≤ n → ch n (n - k) = ch n k
  | 0, k, h => by
    obtain rfl : k = 0 := by omega
    rfl
  | n + 1, 0, _ => by rw [Nat.sub_zero, ch_self, ch_zero]
  | n + 1, k + 1, h => by
    by_cases hk : k = n
    · subst hk
      rw [Nat.sub_self, ch_zero, ch_self]
    · have h1 := ch_sym n k (by omega)
      have h2 := ch_sym n (k + 1) (by omega)
      rw [show n + 1 - (k + 1) = n - (k + 1) + 1 by omega, ch, ch, h2, show n - (k + 1) + 1 = n - k by omega, h1, Nat.add_comm]
theorem ch_le : ∀ (n k : Nat), ch n k ≤ 2 ^ n
  | n, 0 => by rw [ch_zero]; exact Nat.pow_pos (by decide)
  | 0, k + 1 => by simp [ch]
  | n + 1, k + 1 => by
    have h1 := ch_le n k
    have h2 := ch_le n (k + 1)
    rw [ch, Nat.pow_succ]
    omega
theorem two_pow (n m : Nat) (h : n ≤ 13 * m) : 2 ^ n ≤ 10000 ^ m := by
  have h2 : 2 ^ n ≤ 2 ^ (13 * m) := Nat.pow_le_pow_right (by decide) h
  rw [Nat.pow_mul] at h2
  exact Nat.le_trans h2 (Nat.pow_le_pow_left (by decide) m)
theorem ch_len (n k : Nat) (h : n ≤ 401) : (digs (ch n k)).length ≤ 40 := by
  have h1 := ch_le n k
  have h4 : ((ch n k : Nat) : Int) ≤ ((10000 ^ 31 : Nat) : Int) := Int.ofNat_le.2 (Nat.le_trans h1 (two_pow n 31 (by omega)))
  rw [Int.natCast_pow] at h4
  have h5 := pow_pos_ 31
  have h6 := digs_le (ch n k) 32 (by
    rw [Int.pow_succ]
    exact Int.lt_of_le_of_lt h4 (by show (10000 : Int) ^ 31 < 10000 ^ 31 * 10000; omega))
  omega
theorem mul_len1 (n d : Nat) (hd : d < 10000) : (digs (n * d)).length ≤ (digs n).length + 1 := by
  apply digs_le
  have h3 := len_lt n
  rw [Int.pow_succ, Int.natCast_mul]
  have h4 : (n : Int) * d ≤ n * 10000 := Int.mul_le_mul_of_nonneg_left (by omega) (by omega)
  omega
theorem digs_one (i : Nat) (h0 : 0 < i) (h1 : i < 10000) : ([(i : Int)] : List Int) = digs i := by
  rw [digs_pos i (by omega), show i / 10000 = 0 by omega, digs_zero, show i % 10000 = i by omega]
end Go.VN


namespace Go.VS.YtlogclmmeikbpaaDoor
open Go Go.VL Go.VN Go.RowKit Go.Proofs
set_option maxRecDepth 100000
set_option linter.unusedVariables false

theorem valid_N (n : Nat) (h : (digs n).length ≤ 200) : validB (digs n) = true := by
  have := valid_tr (dig_digs n) (by rw [tr_digs_id]; exact h)
  rwa [tr_digs_id] at this
theorem s_MulN (m n : Nat) (h : (digs m).length + (digs n).length ≤ 200) : Spc X 14 [nt (digs m), nt (digs n)] (nr (digs (m * n), 0)) := by
  have h1 := s_Mul (digs m) (digs n)
  have hl := mul_len m n
  unfold mulR at h1
  rw [if_pos ⟨valid_N m (by omega), valid_N n (by omega)⟩, val_digs, val_digs, ← Int.natCast_mul, Int.toNat_natCast, fit_ok _ (by omega)] at h1
  exact h1
theorem r_MulN (m n : Nat) (h : (digs m).length + (digs n).length ≤ 200) : Spc X 16 [nt (digs m), nt (digs n)] (nr (digs (m * n), 0)) := by
  have h1 := r_Mul (digs m) (digs n)
  have hl := mul_len m n
  unfold mulR at h1
  rw [if_pos ⟨valid_N m (by omega), valid_N n (by omega)⟩, val_digs, val_digs, ← Int.natCast_mul, Int.toNat_natCast, fit_ok _ (by omega)] at h1
  exact h1
theorem s_AddN (m n : Nat) (hm : (digs m).length ≤ 200) (hn : (digs n).length ≤ 200) (h : (digs (m + n)).length ≤ 200) : Spc X 35 [nt (digs m), nt (digs n)] (nr (digs (m + n), 0)) := by
  have h1 := s_Add (digs m) (digs n)
  unfold addR at h1
  rw [if_pos ⟨valid_N m hm, valid_N n hn⟩, val_digs, val_digs, Int.toNat_natCast, Int.toNat_natCast, fit_ok _ h] at h1
  exact h1
theorem s_DivN (m n : Nat) (hm : (digs m).length ≤ 200) (hn : (digs n).length ≤ 200) (h0 : n ≠ 0) : Spc X 32 [nt (digs m), nt (digs n)] (nr2 (digs (m / n), digs (m % n), 0)) := by
  have h := s_Div (digs m) (digs n)
  unfold divR at h
  rw [if_pos ⟨valid_N m hm, valid_N n hn⟩, val_digs, val_digs, Int.toNat_natCast, Int.toNat_natCast, if_neg h0] at h
  exact h
theorem s_GcdN (m n : Nat) (hm : (digs m).length ≤ 200) (hn : (digs n).length ≤ 200) : Spc X 29 [nt (digs m), nt (digs n)] (nr (digs (Nat.gcd m n), 0)) := by
  have h := s_Gcd (digs m) (digs n)
  unfold gcdR at h
  rw [if_pos ⟨valid_N m hm, valid_N n hn⟩, val_digs, val_digs, Int.toNat_natCast, Int.toNat_natCast] at h
  exact h
theorem r_SameT (a : List Int) : Spc X 17 [nt a, nt a] (.one (.bool true)) := by
  have := r_Same a a
  rwa [decide_eq_true rfl] at this
theorem r_Few2 (a b : List Int) (most : Int) (la : a.length ≤ 1000000000000000) (lb : b.length ≤ 1000000000000000) : Spc X 28 [.one (slc eN [a, b]), .one (.int .i64 most)] (.one (.bool (decide ((a.length : Int) + b.length ≤ most)))) := by
  have := r_Few [a, b] most (by simp) (by simp [la, lb])
  simpa using this
theorem sgn_neg (m n : Nat) : sgn m n < 0 ↔ m < n := by
  unfold sgn
  by_cases h1 : (m : Int) < n
  · rw [if_pos h1]; omega
  · by_cases h2 : (m : Int) > n
    · rw [if_neg h1, if_pos h2]; omega
    · rw [if_neg h1, if_neg h2]; omega
end Go.VS.YtlogclmmeikbpaaDoor


namespace Go.VS.YtlogclmmeikbpaaDoor
open Go Go.VL Go.VN Go.RowKit Go.Proofs
set_option maxRecDepth 100000
set_option linter.unusedVariables false

/-- A description: a row of words. -/
def eW (d : Int) : List PV := [.int .u16 d]
def madeL (l : List Int) : List Int := l.map (· % 10000)
theorem r_Made (l : List Int) (hl : l.length ≤ 200) (hd : ∀ d ∈ l, 0 ≤ d ∧ d ≤ 65535) : Spc X 31 [.one (slc eW l)] (nt (tr (madeL l))) := by
  refine Spc.start Tryd.func31 rfl (h := fun hs R hR => ?_)
  unfold Tryd.f31
  simp only [entryE, PA.av]
  refine walk (hQ := ?_)
  refine Lp.intro (fun (i : Nat) => ⟨[(0, vP (slc eW l)), (2, .one (.ptr 0 0)), (3, .one (.own 1 1 i)), (4, vI i)], [(0, (.mx [.pv .nil], false)), (1, (.pu 3 ((madeL (l.take i)).flatMap eI), false))], 2⟩) (fun i => i ≤ l.length) (fun i => l.length - i) 0 (Nat.zero_le _) (h0 := le_ghost1 1 3 (hle := le_auto)) (hr := fun i K hi hK => ?_)
  have hlm : (madeL (l.take i)).length = i := by unfold madeL; rw [List.length_map, List.length_take]; omega
  refine walk (hQ := ?_)
  refine R_g_if (h1 := fun h1 => ?_) (h2 := fun h1 => ?_)
  · simp only [if_true] at h1
    have hx : 0 ≤ l.getD i 0 ∧ l.getD i 0 ≤ 65535 := by
      rw [List.getD_eq_getElem?_getD, List.getElem?_eq_getElem (show i < l.length by omega)]
      exact hd _ (List.getElem_mem _)
    refine walk (hQ := ?_)
    refine W_if (ht := fun h2 => ?_) (hf := fun h2 => absurd h2 (by omega))
    have e : madeL (l.take i) ++ [l.getD i 0 % 10000] = madeL (l.take (i + 1)) := by
      unfold madeL
      rw [take_snoc (by omega), List.map_append]; rfl
    refine walk (hQ := ?_)
    rw [e]
    exact hK _ (i + 1) (by omega) (by omega) le_auto
  · simp only [if_true] at h1
    obtain rfl : i = l.length := by omega
    refine walk (hQ := ?_)
    refine R_callF (r_trim (madeL (l.take l.length))) (hK := ?_)
    rw [List.take_length]
    refine walk (hQ := ?_)
    exact hR _ (ret1 (hp := rfl))
end Go.VS.YtlogclmmeikbpaaDoor


namespace Go.VN
open Go.RowKit
set_option linter.unusedVariables false
theorem dg_1 : digs 12345678 = [5678, 1234] := by simp [digs_pos, digs_zero]
theorem dg_2 : digs 10001 = [1, 1] := by simp [digs_pos, digs_zero]
theorem dg_3 : digs 152415765279684 = [9684, 6527, 4157, 152] := by simp [digs_pos, digs_zero]
theorem dg_4 : digs 1234 = [1234] := by simp [digs_pos, digs_zero]
theorem dg_5 : digs 4444 = [4444] := by simp [digs_pos, digs_zero]
theorem dg_6 : digs (ch 6 2) = [15] := by
  rw [show ch 6 2 = 15 from rfl]
  simp [digs_pos, digs_zero]
theorem ex_mul : mulR [5678, 1234] [5678, 1234] = ([9684, 6527, 4157, 152], 0) := by
  unfold mulR fit
  rw [if_pos (by decide)]
  rw [show ((val [5678, 1234]) * (val [5678, 1234])).toNat = 152415765279684 from by decide, dg_3]
  rfl
theorem ex_fmt : fmtR [9684, 6527, 4157, 152] = ([49, 53, 50, 52, 49, 53, 55, 54, 53, 50, 55, 57, 54, 56, 52], 0) := by
  unfold fmtR
  rw [if_pos (by decide)]
  simp [fmtL, pad4, Lib.itoa, Lib.decDigits]
theorem ex_div : divR [5678, 1234] [1, 1] = ([1234], [4444], 0) := by
  unfold divR
  rw [if_pos (by decide), if_neg (by decide)]
  rw [show (val [5678, 1234]).toNat = 12345678 from by decide, show (val [1, 1]).toNat = 10001 from by decide]
  rw [show 12345678 / 10001 = 1234 from rfl, show 12345678 % 10001 = 4444 from rfl, dg_4, dg_5]
theorem ex_parse : parseL [48, 48, 55] = ([], 2) := rfl
end Go.VN


namespace Go.VS.YtlogclmmeikbpaaDoor
open Go Go.VL Go.VN Go.RowKit Go.Proofs
set_option maxRecDepth 100000
set_option linter.unusedVariables false

theorem l_copied (a : List Int) (la : a.length ≤ 1000000) : Spc X 15 [nt a] (nt a) := by
  refine Spc.start Tryd.func15 rfl (h := fun hs R hR => ?_)
  unfold Tryd.f15
  simp only [entryE, PA.av, List.map_cons, List.map_nil]
  refine walk (hQ := ?_)
  refine R_call (s_cloneI a la) (hK := ?_)
  refine walk (hQ := ?_)
  exact hR _ (ret1 (hp := rfl))
theorem eq_of_getD {a b : List Int} (hl : a.length = b.length) (h : ∀ i, i < a.length → a.getD i 0 = b.getD i 0) : a = b := by
  apply List.ext_getElem hl
  intro i h1 h2
  have := h i h1
  simpa [List.getD_eq_getElem?_getD, h1, h2] using this
theorem s_EqualI (a b : List Int) (ha : a.length ≤ 1000000) : Spc X 40 [.one (slc eI a), .one (slc eI b)] (.one (.bool (decide (a = b)))) := by
  refine Spc.start Tryd.func40 rfl (h := fun hs R hR => ?_)
  unfold Tryd.f40
  simp only [entryE, PA.av]
  refine walk (hQ := ?_)
  refine W_if (ht := fun h0 => ?_) (hf := fun h0 => ?_)
  · refine walk (hQ := ?_)
    refine hR _ (ret1 (hp := ?_))
    rw [decide_eq_false (fun e => h0 (by rw [e]))]
  · have hl : a.length = b.length := by omega
    refine walk (hQ := ?_)
    refine Lp.intro (fun (i : Nat) => ⟨[(0, vP (slc eI a)), (1, vP (slc eI b)), (12, vI a.length), (13, vI i)], [], 0⟩) (fun i => i ≤ a.length ∧ ∀ j, j < i → a.getD j 0 = b.getD j 0) (fun i => a.length - i) 0 ⟨Nat.zero_le _, fun j hj => by omega⟩ (h0 := le_auto) (hr := fun i K ⟨hi, he⟩ hK => ?_)
    refine walk (hQ := ?_)
    refine W_if (ht := fun h1 => ?_) (hf := fun h1 => ?_)
    · refine walk (hQ := ?_)
      refine W_ifb (ht := fun h2 => ?_) (hf := fun h2 => ?_)
      · refine walk (hQ := ?_)
        refine hR _ (ret1 (hp := ?_))
        rw [decide_eq_false (fun e => ?_)]
        subst e
        simp at h2
      · refine walk (hQ := ?_)
        refine hK _ (i + 1) ⟨by omega, fun j hj => ?_⟩ (by omega) le_auto
        rcases Nat.lt_or_ge j i with h3 | h3
        · exact he j h3
        · obtain rfl : j = i := by omega
          simpa using h2
    · refine walk (hQ := ?_)
      refine hR _ (ret1 (hp := ?_))
      rw [decide_eq_true (eq_of_getD hl fun j hj => he j (by omega))]
theorem s_Binomial (n k : Nat) (hk : k ≤ n) (hn : n ≤ 400) : Spc X 33 [.one (.int .i64 n), .one (.int .i64 k)] (nr (digs (ch n k), 0)) := by
  refine Spc.start Tryd.func33 rfl (h := fun hs R hR => ?_)
  unfold Tryd.f33
  simp only [entryE, PA.av]
  refine walk (hQ := ?_)
  refine R_g_if (h1 := fun h0 => ?_) (h2 := fun h0 => ?_)
  case refine_2 => simp only [Bool.false_eq_true, if_false] at h0; omega
  refine walk (hQ := ?_)
  refine W_if (ht := fun h2 => ?_) (hf := fun h2 => ?_)
  case refine_1 => omega
  refine walk (hQ := ?_)
  refine Lp.intro (fun (j : Nat) => ⟨[(0, vI n), (1, vI k), (4, .one (.ptr 0 0)), (6, vP (slc eI (digs (ch n j)))), (7, vI ((j : Int) + 1))], [(0, (.mx [.pv .nil], false))], 2⟩) (fun j => j ≤ min k (n - k)) (fun j => n - j) 0 (Nat.zero_le _) (h0 := ?_) (hr := fun j K hj hK => ?_)
  · rw [ch_zero, ← digs_one 1 (by omega) (by omega)]
    exact le_autoV
  have hl := ch_len n j (by omega)
  refine walk (hQ := ?_)
  refine W_if (ht := fun h3 => ?_) (hf := fun h3 => ?_)
  · refine walk (hQ := ?_)
    have e1 : (n : Int) + 1 - ((j : Int) + 1) = ((n - j : Nat) : Int) := by omega
    rw [e1]
    refine R_callF (s_mul1 (ch n j) (n - j) (by omega) (by omega)) (hK := ?_)
    have hl2 := mul_len1 (ch n j) (n - j) (by omega)
    have e2 := digs_one (j + 1) (by omega) (by omega)
    have hd := s_divide (ch n j * (n - j)) (j + 1) (by omega) (by omega) (by rw [← e2]; simp)
    rw [← e2] at hd
    refine walk (hQ := ?_)
    refine R_callF hd (hK := ?_)
    have hq : ch n j * (n - j) / (j + 1) = ch n (j + 1) := by
      have := ch_row n j (by omega)
      rw [Nat.mul_comm, ← this, Nat.mul_div_cancel_left _ (by omega)]
    rw [hq]
    refine walk (hQ := ?_)
    exact hK _ (j + 1) (by omega) (by omega) le_auto
  · have hv : ch n j = ch n k := by
      by_cases h : k ≤ n - k
      · rw [show j = k by omega]
      · rw [show j = n - k by omega, ch_sym n k hk]
    have hf := s_fitsD (ch n j)
    unfold fit at hf
    rw [if_neg (by omega), hv] at hf
    rw [hv]
    refine walk (hQ := ?_)
    refine R_call hf (hK := ?_)
    refine walk (hQ := ?_)
    exact hR _ (ret2 (hp := rfl))
theorem s_EqT (l : List Int) (h : l.length ≤ 1000000) : Spc X 40 [.one (slc eI l), .one (slc eI l)] (.one (.bool true)) := by
  have := s_EqualI l l h
  rwa [decide_eq_true rfl] at this
theorem l_awake : Spc X 12 [] (.one (.bool true)) := by
  refine Spc.start Tryd.func12 rfl (h := fun hs R hR => ?_)
  unfold Tryd.f12
  simp only [entryE]
  have h1 := s_Of 12345678
  rw [show ofR 12345678 = ([5678, 1234], 0) from by unfold ofR; rw [if_neg (by decide)]; exact congrArg (·, 0) dg_1] at h1
  have h2 := s_Mul [5678, 1234] [5678, 1234]
  rw [ex_mul] at h2
  have h3 := s_Format [9684, 6527, 4157, 152]
  rw [ex_fmt] at h3
  have h4 := s_Of 10001
  rw [show ofR 10001 = ([1, 1], 0) from by unfold ofR; rw [if_neg (by decide)]; exact congrArg (·, 0) dg_2] at h4
  have h5 := s_Div [5678, 1234] [1, 1]
  rw [ex_div] at h5
  have h6 := s_Binomial 6 2 (by decide) (by decide)
  rw [dg_6] at h6
  have h7 := s_Parse [48, 48, 55]
  rw [ex_parse] at h7
  refine walk (hQ := ?_)
  refine R_call h1 (hK := ?_)
  refine walk (hQ := ?_)
  refine R_call h2 (hK := ?_)
  refine walk (hQ := ?_)
  refine R_call h3 (hK := ?_)
  refine walk (hQ := ?_)
  refine R_call h4 (hK := ?_)
  refine walk (hQ := ?_)
  refine R_call h5 (hK := ?_)
  refine walk (hQ := ?_)
  refine R_call h6 (hK := ?_)
  refine walk (hQ := ?_)
  refine R_call h7 (hK := ?_)
  refine walk (hQ := ?_)
  refine R_callP (ids' := []) (s_EqT [5678, 1234] (by decide)) (hK := ?_)
  refine walk (hQ := ?_)
  refine R_callP (ids' := []) (s_EqT [1234] (by decide)) (hK := ?_)
  refine walk (hQ := ?_)
  refine R_callP (ids' := []) (s_EqT [4444] (by decide)) (hK := ?_)
  refine walk (hQ := ?_)
  refine R_callP (ids' := []) (s_EqT [15] (by decide)) (hK := ?_)
  refine walk (hQ := ?_)
  exact hR _ (ret1 (hp := rfl))
theorem r_MadeN (l : List Int) (hl : l.length ≤ 200) (hd : ∀ d ∈ l, 0 ≤ d ∧ d ≤ 65535) : ∃ n : Nat, Spc X 31 [.one (slc eW l)] (nt (digs n)) ∧ (digs n).length ≤ l.length := by
  have h := r_Made l hl hd
  have hm : Dig (madeL l) := fun d hd' => by
    obtain ⟨x, hx, rfl⟩ := List.mem_map.1 hd'
    have := hd x hx
    omega
  rw [tr_digs hm] at h
  refine ⟨_, h, ?_⟩
  rw [← tr_digs hm]
  exact Nat.le_trans (len_tr _) (by simp [madeL])
theorem law_Divides (a b : List Int) (la : a.length ≤ 1000000000000000) (lb : b.length ≤ 1000000000000000) : Spc X 9 [nt a, nt b] (.one (.bool true)) := by
  refine Spc.start Tryd.func9 rfl (h := fun hs R hR => ?_)
  unfold Tryd.f9
  simp only [entryE, PA.av, List.map_cons, List.map_nil]
  refine walk (hQ := ?_)
  refine R_call l_awake (hK := ?_)
  refine walk (hQ := ?_)
  refine R_bsl eN (l := [a, b]) (hK := ?_)
  refine walk (hQ := ?_)
  have hfew := r_Few2 a b 160 la lb
  by_cases hf : (a.length : Int) + b.length ≤ 160
  · rw [decide_eq_true hf] at hfew
    refine R_callP (ids' := []) hfew (hK := ?_)
    refine walk (hQ := ?_)
    refine R_call (l_copied a (by omega)) (hK := ?_)
    refine walk (hQ := ?_)
    refine R_call (l_copied b (by omega)) (hK := ?_)
    refine walk (hQ := ?_)
    have hd := s_Div a b
    have hr := r_Div a b
    by_cases hv : validB a = true ∧ validB b = true
    · obtain ⟨ha, hb⟩ := hv
      obtain ⟨ea, va, _⟩ := valid_digs ha
      obtain ⟨eb, vb, _⟩ := valid_digs hb
      by_cases hn : (val b).toNat = 0
      · have e : divR a b = ([], [], 6) := by unfold divR; rw [if_pos ⟨ha, hb⟩, if_pos hn]
        rw [e] at hd hr
        refine R_call hd (hK := ?_)
        refine walk (hQ := ?_)
        refine R_call hr (hK := ?_)
        refine walk (hQ := ?_)
        refine R_call (r_SameT []) (hK := ?_)
        refine walk (hQ := ?_)
        refine R_call (r_SameT []) (hK := ?_)
        refine walk (hQ := ?_)
        refine R_call (r_SameT []) (hK := ?_)
        refine walk (hQ := ?_)
        refine R_call (r_SameT []) (hK := ?_)
        refine walk (hQ := ?_)
        exact hR _ (ret1 (hp := rfl))
      · have e : divR a b = (digs ((val a).toNat / (val b).toNat), digs ((val a).toNat % (val b).toNat), 0) := by unfold divR; rw [if_pos ⟨ha, hb⟩, if_neg hn]
        rw [e] at hd hr
        generalize (val a).toNat = m at *
        generalize (val b).toNat = n at *
        subst ea
        subst eb
        have l1 := len_of_lt (Nat.div_le_self m n)
        have l2 := len_of_lt (Nat.mod_le m n)
        have l3 := len_of_lt (show m / n * n ≤ m by exact Nat.div_mul_le_self m n)
        have hmn : m / n * n + m % n = m := by rw [Nat.mul_comm]; exact Nat.div_add_mod m n
        have hadd := s_AddN (m / n * n) (m % n) (by omega) (by omega) (by rw [hmn]; omega)
        rw [hmn] at hadd
        refine R_call hd (hK := ?_)
        refine walk (hQ := ?_)
        refine R_call hr (hK := ?_)
        refine walk (hQ := ?_)
        refine R_call (r_SameT _) (hK := ?_)
        refine walk (hQ := ?_)
        refine R_call (r_SameT _) (hK := ?_)
        refine walk (hQ := ?_)
        refine R_call (s_MulN (m / n) n (by omega)) (hK := ?_)
        refine walk (hQ := ?_)
        refine R_call hadd (hK := ?_)
        refine walk (hQ := ?_)
        refine R_call (r_SameT _) (hK := ?_)
        refine walk (hQ := ?_)
        have hc := s_Cmp (digs (m % n)) (digs n)
        rw [cmp_digs] at hc
        refine R_call hc (hK := ?_)
        refine walk (hQ := ?_)
        have : sgn ((m % n : Nat) : Int) (n : Int) < 0 := (sgn_neg (m % n) n).2 (Nat.mod_lt m (by omega))
        exact hR _ (ret1 (hp := by rw [decide_eq_true this]))
    · have e : divR a b = ([], [], 1) := by unfold divR; rw [if_neg hv]
      rw [e] at hd hr
      refine R_call hd (hK := ?_)
      refine walk (hQ := ?_)
      refine R_call hr (hK := ?_)
      refine walk (hQ := ?_)
      refine R_call (r_SameT []) (hK := ?_)
      refine walk (hQ := ?_)
      refine R_call (r_SameT []) (hK := ?_)
      refine walk (hQ := ?_)
      refine R_call (r_SameT []) (hK := ?_)
      refine walk (hQ := ?_)
      refine R_call (r_SameT []) (hK := ?_)
      refine walk (hQ := ?_)
      exact hR _ (ret1 (hp := rfl))
  · rw [decide_eq_false hf] at hfew
    refine R_callP (ids' := []) hfew (hK := ?_)
    refine walk (hQ := ?_)
    refine R_call l_awake (hK := ?_)
    refine walk (hQ := ?_)
    exact hR _ (ret1 (hp := rfl))
theorem law_Gcd (a b c : List Int) (la : a.length ≤ 1000000000000000) (lb : b.length ≤ 1000000000000000) (hc : ∀ d ∈ c, 0 ≤ d ∧ d ≤ 65535) : Spc X 7 [nt a, nt b, .one (slc eW c)] (.one (.bool true)) := by
  refine Spc.start Tryd.func7 rfl (h := fun hs R hR => ?_)
  unfold Tryd.f7
  simp only [entryE, PA.av, List.map_cons, List.map_nil]
  refine walk (hQ := ?_)
  refine R_call l_awake (hK := ?_)
  refine walk (hQ := ?_)
  refine R_bsl eN (l := [a, b]) (hK := ?_)
  refine walk (hQ := ?_)
  have hfew := r_Few2 a b 60 la lb
  by_cases hf : (a.length : Int) + b.length ≤ 60
  · rw [decide_eq_true hf] at hfew
    refine R_callP (ids' := []) hfew (hK := ?_)
    refine walk (hQ := ?_)
    refine W_if (ht := fun h0 => ?_) (hf := fun h0 => ?_)
    · refine walk (hQ := ?_)
      refine R_call l_awake (hK := ?_)
      refine walk (hQ := ?_)
      exact hR _ (ret1 (hp := rfl))
    · refine walk (hQ := ?_)
      refine R_call (l_copied a (by omega)) (hK := ?_)
      refine walk (hQ := ?_)
      refine R_call (l_copied b (by omega)) (hK := ?_)
      refine walk (hQ := ?_)
      have hg := s_Gcd a b
      have hr := r_Gcd a b
      by_cases hv : validB a = true ∧ validB b = true
      · obtain ⟨ha, hb⟩ := hv
        obtain ⟨ea, va, _⟩ := valid_digs ha
        obtain ⟨eb, vb, _⟩ := valid_digs hb
        have e : gcdR a b = (digs (Nat.gcd (val a).toNat (val b).toNat), 0) := by unfold gcdR; rw [if_pos ⟨ha, hb⟩]
        rw [e] at hg hr
        generalize (val a).toNat = m at *
        generalize (val b).toNat = n at *
        subst ea
        subst eb
        obtain ⟨p, ep, lp⟩ := r_MadeN c (by omega) hc
        have lg := gcd_len m n
        have l1 := mul_len m p
        have l2 := mul_len n p
        have l3 := mul_len (Nat.gcd m n) p
        have hgg := s_GcdN (m * p) (n * p) (by omega) (by omega)
        rw [Nat.gcd_mul_right] at hgg
        refine R_call hg (hK := ?_)
        refine walk (hQ := ?_)
        refine R_call hr (hK := ?_)
        refine walk (hQ := ?_)
        refine R_call (r_SameT _) (hK := ?_)
        refine walk (hQ := ?_)
        refine R_call ep (hK := ?_)
        refine walk (hQ := ?_)
        refine R_call (s_MulN m p (by omega)) (hK := ?_)
        refine walk (hQ := ?_)
        refine R_call (s_MulN n p (by omega)) (hK := ?_)
        refine walk (hQ := ?_)
        refine R_call hgg (hK := ?_)
        refine walk (hQ := ?_)
        refine R_call (r_MulN (Nat.gcd m n) p (by omega)) (hK := ?_)
        refine walk (hQ := ?_)
        refine R_call (r_SameT _) (hK := ?_)
        refine walk (hQ := ?_)
        refine W_if (ht := fun h1 => ?_) (hf := fun h1 => ?_)
        · have hg0 : Nat.gcd m n = 0 := (len_zero _).1 h1
          have hm : m = 0 := Nat.eq_zero_of_gcd_eq_zero_left hg0
          have hn : n = 0 := Nat.eq_zero_of_gcd_eq_zero_right hg0
          subst hm
          subst hn
          have z0 : ((digs 0).length : Int) = 0 := (len_zero 0).2 rfl
          refine walk (hQ := ?_)
          simp only [digs_zero]
          refine walk (hQ := ?_)
          exact hR _ (ret1 (hp := rfl))
        · have hg0 : Nat.gcd m n ≠ 0 := fun h => h1 ((len_zero _).2 h)
          have d1 := s_DivN m (Nat.gcd m n) (by omega) (by omega) hg0
          have d2 := s_DivN n (Nat.gcd m n) (by omega) (by omega) hg0
          rw [Nat.mod_eq_zero_of_dvd (Nat.gcd_dvd_left m n), digs_zero] at d1
          rw [Nat.mod_eq_zero_of_dvd (Nat.gcd_dvd_right m n), digs_zero] at d2
          refine walk (hQ := ?_)
          refine R_call d1 (hK := ?_)
          refine walk (hQ := ?_)
          refine R_call d2 (hK := ?_)
          refine walk (hQ := ?_)
          exact hR _ (ret1 (hp := rfl))
      · have e : gcdR a b = ([], 1) := by unfold gcdR; rw [if_neg hv]
        rw [e] at hg hr
        refine R_call hg (hK := ?_)
        refine walk (hQ := ?_)
        refine R_call hr (hK := ?_)
        refine walk (hQ := ?_)
        refine R_call (r_SameT []) (hK := ?_)
        refine walk (hQ := ?_)
        refine R_call (r_SameT []) (hK := ?_)
        refine walk (hQ := ?_)
        exact hR _ (ret1 (hp := rfl))
  · rw [decide_eq_false hf] at hfew
    refine R_callP (ids' := []) hfew (hK := ?_)
    refine walk (hQ := ?_)
    refine R_call l_awake (hK := ?_)
    refine walk (hQ := ?_)
    exact hR _ (ret1 (hp := rfl))
end Go.VS.YtlogclmmeikbpaaDoor

