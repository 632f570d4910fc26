/- Plain laws over decimal texts: what the library's and the chapter's functions on texts answer. No program is walked here, and no condition stands. -/
import Derived.Test.YtlogclmmeikbpaaDoorcpKit
import Derived.Test.YtlogclmmeikbpaaDoorcpFmt
namespace Go.Proofs.YtlogclmmeikbpaaDoor.Pu
open Go.RowKit Go.Proofs.YtlogclmmeikbpaaDoorW.PrintWords Go.Proofs.YtlogclmmeikbpaaDoor.Given
set_option linter.unusedVariables false

def dvF (a : Nat) (l : List UInt8) : Nat := l.foldl (fun a c => a * 10 + (c.toNat - 48)) a
/-- The number of a decimal text. -/
def dv (l : List UInt8) : Nat := dvF 0 l
def Dec (l : List UInt8) : Prop := ∀ c ∈ l, 48 ≤ c.toNat ∧ c.toNat ≤ 57
theorem Dec.tail {c : UInt8} {l : List UInt8} (h : Dec (c :: l)) : Dec l := fun x hx => h x (List.mem_cons_of_mem _ hx)
theorem Dec.take {l : List UInt8} (h : Dec l) (n : Nat) : Dec (l.take n) := fun x hx => h x (List.mem_of_mem_take hx)
theorem Dec.drop {l : List UInt8} (h : Dec l) (n : Nat) : Dec (l.drop n) := fun x hx => h x (List.mem_of_mem_drop hx)
theorem dvF_append (a : Nat) (l r : List UInt8) : dvF a (l ++ r) = dvF (dvF a l) r := by simp [dvF]
theorem dvF_lin (l : List UInt8) : ∀ a, dvF a l = a * 10 ^ l.length + dvF 0 l := by
  induction l with
  | nil => intro a; simp [dvF]
  | cons c l ih =>
    intro a
    show dvF (a * 10 + (c.toNat - 48)) l = _ + dvF (0 * 10 + (c.toNat - 48)) l
    rw [ih, ih (0 * 10 + (c.toNat - 48)), List.length_cons, Nat.pow_succ, Nat.add_mul, Nat.add_mul, Nat.zero_mul, Nat.mul_assoc, Nat.mul_comm 10]
    omega
theorem dv_cons (c : UInt8) (l : List UInt8) : dv (c :: l) = (c.toNat - 48) * 10 ^ l.length + dv l := by
  show dvF (0 * 10 + (c.toNat - 48)) l = _
  rw [dvF_lin]
  simp [dv]
theorem dv_snoc (l : List UInt8) (c : UInt8) : dv (l ++ [c]) = dv l * 10 + (c.toNat - 48) := by
  unfold dv
  rw [dvF_append]
  rfl
theorem dv_lt {l : List UInt8} (h : Dec l) : dv l < 10 ^ l.length := by
  induction l with
  | nil => decide
  | cons c l ih =>
    have := ih h.tail
    have hc := h c (by simp)
    rw [dv_cons, List.length_cons, Nat.pow_succ, Nat.mul_comm _ 10]
    have : (c.toNat - 48) * 10 ^ l.length ≤ 9 * 10 ^ l.length := Nat.mul_le_mul_right _ (by omega)
    omega
theorem dv_pos {c : UInt8} {l : List UInt8} (h : Dec (c :: l)) (hc : c ≠ 48) : 0 < dv (c :: l) := by
  have h1 := h c (by simp)
  have h2 : c.toNat ≠ 48 := fun e => hc (UInt8.toNat_inj.1 (by simpa using e))
  have h3 : 0 < (c.toNat - 48) * 10 ^ l.length := Nat.mul_pos (by omega) (Nat.pow_pos (by decide))
  rw [dv_cons]
  omega
theorem digit_back (c : UInt8) (h : 48 ≤ c.toNat ∧ c.toNat ≤ 57) : UInt8.ofNat (48 + (c.toNat - 48)) = c := by
  rw [show 48 + (c.toNat - 48) = c.toNat by omega]
  simp
theorem dec_dv : ∀ (n : Nat) (c : UInt8) (l : List UInt8), l.length = n → Dec (c :: l) → c ≠ 48 → Lib.decDigits (dv (c :: l)) = c :: l
  | 0, c, l, hn, h, hc => by
    obtain rfl := List.eq_nil_of_length_eq_zero hn
    have h1 := h c (by simp)
    unfold Lib.decDigits
    rw [dv_cons]
    have : (c.toNat - 48) * 10 ^ ([] : List UInt8).length + dv [] = c.toNat - 48 := by simp [dv, dvF]
    rw [this, dif_pos (by omega), digit_back c h1]
  | n + 1, c, l, hn, h, hc => by
    rcases List.eq_nil_or_concat l with rfl | ⟨l', x, rfl⟩
    · cases hn
    · rw [List.concat_eq_append] at h hn ⊢
      have hx := h x (by simp)
      have hp : Dec (c :: l') := fun y hy => h y (by rcases List.mem_cons.1 hy with rfl | hy <;> simp [*])
      have ih := dec_dv n c l' (by simpa using hn) hp hc
      have hpos := dv_pos hp hc
      unfold Lib.decDigits
      have e : dv (c :: (l' ++ [x])) = dv (c :: l') * 10 + (x.toNat - 48) := dv_snoc (c :: l') x
      rw [e, dif_neg (by omega), show (dv (c :: l') * 10 + (x.toNat - 48)) / 10 = dv (c :: l') by omega, show (dv (c :: l') * 10 + (x.toNat - 48)) % 10 = x.toNat - 48 by omega, ih, digit_back x hx]
      rfl
theorem itoa_nat (n : Nat) : Lib.itoa (n : Int) = Lib.decDigits n := by
  unfold Lib.itoa
  rw [if_neg (by omega)]
  rfl
theorem pad_dv (n : Nat) : ∀ (l : List UInt8), Dec l → 0 < l.length → l.length ≤ n → (List.replicate n (48 : UInt8)).drop (Lib.decDigits (dv l)).length ++ Lib.decDigits (dv l) = List.replicate (n - l.length) 48 ++ l
  | [], _, h0, _ => by cases h0
  | c :: l, h, _, hn => by
    by_cases hc : c = 48
    · subst hc
      cases l with
      | nil =>
        have : Lib.decDigits (dv [48]) = [48] := by unfold Lib.decDigits; rfl
        rw [this]
        simp
      | cons y l =>
        have ih := pad_dv n (y :: l) h.tail (by simp) (by simp at hn ⊢; omega)
        have e : dv (48 :: y :: l) = dv (y :: l) := by rw [dv_cons]; simp
        rw [e, ih]
        simp only [List.length_cons] at hn ⊢
        obtain ⟨d, rfl⟩ : ∃ d, n = d + (l.length + 1 + 1) := ⟨n - (l.length + 1 + 1), by omega⟩
        rw [show d + (l.length + 1 + 1) - (l.length + 1) = d + 1 by omega, show d + (l.length + 1 + 1) - (l.length + 1 + 1) = d by omega, List.replicate_succ', List.append_assoc]
        rfl
    · rw [dec_dv l.length c l rfl h hc]
      simp
theorem pad4_dv {l : List UInt8} (h : Dec l) (hl : l.length = 4) : pad4 (dv l : Int) = l := by
  have := pad_dv 4 l h (by omega) (by omega)
  unfold pad4
  rw [itoa_nat]
  rw [hl] at this
  simpa using this
theorem parseUint_dec : ∀ (l : List UInt8) (acc : Nat), Dec l → (acc + 1) * 10 ^ l.length ≤ 10 ^ 18 → Lib.parseUint10 acc l = .ok (dvF acc l)
  | [], acc, _, _ => rfl
  | c :: l, acc, h, hb => by
    have hc := h c (by simp)
    rw [List.length_cons, Nat.pow_succ] at hb
    have h1 : 0 < 10 ^ l.length := Nat.pow_pos (by decide)
    have h2 : (acc + 1) * 1 ≤ (acc + 1) * (10 ^ l.length * 10) := Nat.mul_le_mul_left _ (by omega)
    rw [Lib.parseUint10, if_pos hc, if_neg (by omega), if_neg (by omega), parseUint_dec l _ h.tail ?_]
    · rfl
    · refine Nat.le_trans ?_ hb
      rw [show (acc + 1) * (10 ^ l.length * 10) = (acc * 10 + 10) * 10 ^ l.length by rw [Nat.mul_comm (10 ^ l.length), ← Nat.mul_assoc, Nat.add_mul]]
      exact Nat.mul_le_mul_right _ (by omega)
theorem atoi_dec {l : List UInt8} (h : Dec l) (h0 : l ≠ []) (hl : l.length ≤ 17) : Lib.atoiAll l = .ok (dv l : Int) := by
  cases l with
  | nil => exact absurd rfl h0
  | cons c l =>
    have hc := h c (by simp)
    have hb : (0 + 1) * 10 ^ (c :: l).length ≤ 10 ^ 18 := by
      rw [Nat.zero_add, Nat.one_mul]
      exact Nat.pow_le_pow_right (by decide) (by omega)
    have hp := parseUint_dec (c :: l) 0 h hb
    have hlt := dv_lt h
    have h3 : 10 ^ (c :: l).length ≤ 10 ^ 18 := Nat.pow_le_pow_right (by decide) (by omega)
    unfold Lib.atoiAll
    simp only
    rw [if_neg (by omega), Lib.parseMag, if_neg (by simp), hp]
    simp only
    have hd : dvF 0 (c :: l) = dv (c :: l) := rfl
    rw [hd]
    rw [if_neg (by omega), if_neg (by omega), if_neg (by omega)]
theorem Atoi_dec {s : ByteArray} (h : Dec s.data.toList) (h0 : s.data.toList ≠ []) (hl : s.data.toList.length ≤ 17) : strconv_Atoi.f s = some ((dv s.data.toList : Int), none) := by
  unfold strconv_Atoi.f
  have : s.size = s.data.toList.length := rfl
  rw [if_pos (by omega), atoi_dec h h0 hl]

/-- The digits in the base 10000 of a decimal text, the least one first. -/
def nums (s : List UInt8) : List Int := if h : s = [] then [] else (dv (s.drop (s.length - 4)) : Int) :: nums (s.take (s.length - 4))
termination_by s.length
decreasing_by
  have : 0 < s.length := List.length_pos_iff.2 h
  rw [List.length_take]
  omega
theorem nums_nil : nums [] = [] := by unfold nums; simp
theorem nums_cons (s : List UInt8) (h : s ≠ []) : nums s = (dv (s.drop (s.length - 4)) : Int) :: nums (s.take (s.length - 4)) := by rw [nums]; simp [h]
theorem nums_dig {s : List UInt8} (h : Dec s) : Dig (nums s) := by
  generalize hn : s.length = n
  induction n using Nat.strongRecOn generalizing s with
  | ind n ih =>
    by_cases h0 : s = []
    · subst h0; rw [nums_nil]; exact Dig.nil
    · have hp : 0 < s.length := List.length_pos_iff.2 h0
      rw [nums_cons s h0]
      intro d hd
      rcases List.mem_cons.1 hd with rfl | hd
      · have h1 := dv_lt (h.drop (s.length - 4))
        have h2 : 10 ^ (s.drop (s.length - 4)).length ≤ 10 ^ 4 := Nat.pow_le_pow_right (by decide) (by rw [List.length_drop]; omega)
        omega
      · exact ih (s.take (s.length - 4)).length (by rw [List.length_take]; omega) (h.take _) rfl d hd
theorem nums_len (s : List UInt8) : 4 * (nums s).length ≤ s.length + 3 := by
  generalize hn : s.length = n
  induction n using Nat.strongRecOn generalizing s with
  | ind n ih =>
    by_cases h0 : s = []
    · subst h0; rw [nums_nil]; simp
    · have hp : 0 < s.length := List.length_pos_iff.2 h0
      rw [nums_cons s h0, List.length_cons]
      by_cases h4 : s.length ≤ 4
      · have : s.take (s.length - 4) = [] := by rw [show s.length - 4 = 0 by omega]; rfl
        rw [this, nums_nil]
        simp; omega
      · have := ih (s.take (s.length - 4)).length (by rw [List.length_take]; omega) (s.take (s.length - 4)) rfl
        rw [List.length_take] at this
        omega
theorem fmtL_cons (c : Int) (l : List Int) (h : l ≠ []) : fmtL (c :: l) = fmtL l ++ pad4 c := by
  unfold fmtL
  rw [List.reverse_cons]
  cases hr : l.reverse with
  | nil => exact absurd (by simpa using hr) h
  | cons d r => simp
theorem nums_back {s : List UInt8} (h : Dec s) (h0 : s ≠ []) (hz : s.head? ≠ some 48) : tr (nums s) = nums s ∧ fmtL (nums s) = s ∧ nums s ≠ [] := by
  generalize hn : s.length = n
  induction n using Nat.strongRecOn generalizing s with
  | ind n ih =>
    have hp : 0 < s.length := List.length_pos_iff.2 h0
    rw [nums_cons s h0]
    by_cases h4 : s.length ≤ 4
    · have e : s.take (s.length - 4) = [] := by rw [show s.length - 4 = 0 by omega]; rfl
      have e2 : s.drop (s.length - 4) = s := by rw [show s.length - 4 = 0 by omega]; rfl
      rw [e, e2, nums_nil]
      cases s with
      | nil => exact absurd rfl h0
      | cons c l =>
        have hc : c ≠ 48 := fun e => hz (by rw [e]; rfl)
        have := dv_pos h hc
        refine ⟨by rw [tr, tr, if_pos rfl, if_neg (by omega)], ?_, by simp⟩
        unfold fmtL
        simp only [List.reverse_cons, List.reverse_nil, List.nil_append, List.flatMap_nil, List.append_nil]
        rw [itoa_nat, dec_dv l.length c l rfl h hc]
    · have hne : s.take (s.length - 4) ≠ [] := fun e => by
        have := congrArg List.length e
        rw [List.length_take] at this
        simp at this
        omega
      have hh : (s.take (s.length - 4)).head? ≠ some 48 := by
        rw [List.head?_take, if_neg (by omega)]
        exact hz
      obtain ⟨i1, i2, i3⟩ := ih (s.take (s.length - 4)).length (by rw [List.length_take]; omega) (h.take _) hne hh rfl
      refine ⟨by rw [tr, i1, if_neg i3], ?_, by simp⟩
      rw [fmtL_cons _ _ i3, i2, pad4_dv (h.drop _) (by rw [List.length_drop]; omega), List.take_append_drop]
theorem tr_getLast (l : List Int) : (tr l).getLast? ≠ some 0 := by
  generalize hn : l.length = n
  induction n generalizing l with
  | zero => obtain rfl := List.eq_nil_of_length_eq_zero hn; simp [tr]
  | succ n ih =>
    rcases List.eq_nil_or_concat l with rfl | ⟨l', x, rfl⟩
    · cases hn
    · rw [List.concat_eq_append] at hn ⊢
      by_cases hx : x = 0
      · subst hx
        rw [tr_zero]
        exact ih l' (by simpa using hn)
      · rw [tr_last l' x hx]
        simpa using hx
theorem tr_dig {l : List Int} (h : Dig l) : Dig (tr l) := by rw [tr_digs h]; exact dig_digs _
theorem valid_tr {l : List Int} (h : Dig l) (hl : (tr l).length ≤ 200) : validB (tr l) = true := by
  unfold validB
  rw [decide_eq_true hl]
  have h1 := tr_getLast l
  have h2 := tr_dig h
  simp only [Bool.true_and, Bool.and_eq_true, Bool.not_eq_true', beq_eq_false_iff_ne, ne_eq, List.all_eq_true, decide_eq_true_eq]
  exact ⟨h1, h2⟩
theorem fmt_nums {s : List UInt8} (h : Dec s) (h0 : s ≠ []) (hz : s.head? = some 48 → s = [48]) : fmtL (tr (nums s)) = s := by
  by_cases hh : s.head? = some 48
  · rw [hz hh]
    have e : nums [48] = [0] := by rw [nums_cons _ (by simp)]; simp [nums_nil, dv, dvF]
    rw [e]
    rfl
  · obtain ⟨i1, i2, _⟩ := nums_back h h0 hh
    rw [i1, i2]
end Go.Proofs.YtlogclmmeikbpaaDoor.Pu

